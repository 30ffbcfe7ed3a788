/-
  No cell of these rows narrows 'for every input' (looked for: loops, veiled, ifaces, maps, wideKeys, modest, calm, conditions, laid).
  DERIVED. THE GIVEN ROWS OF THIS SEAT. 5 by the template 'for every input the law returns true; each argument reads behind the call as it read before'; 0 by the template 'total and deterministic' (their statements: YtjnelnofbpjdmaaTotals.lean).
  GIVEN WITH THE SEED: the statements are not yours to turn. If you find one false, say at which input.
  Laid BY PROGRAM, IN A SANDBOX (cutbox-rows.mjs): the forced cells as the released guide's own fill.sh prints them over the translation 8d1258ee2897060e… (all of the seat's roots in one cut). By AI agents, Wed Nov 11 2026. No macro, syntax, notation, axiom, sorry.
-/
import Derived.Test.YtjnelnofbpjdmaaChecked
import GoSem.Claim
import GoSem.ClaimJoined
import GoSem.ClaimMapViews
import Derived.JoinedTies
import Derived.KernelRfl
namespace Go.Proofs.Ytjnelnofbpjdmaa
/- THE CELL 'sum', in the pinned program and in every row, IS THE sha256 OF THE DUMP (.gsa) THAT YtjnelnofbpjdmaaProg.lean LOADS. Nothing in Lean hashes anything: it is a label: what it is worth is what the hold of that sum in a sandbox is worth. -/
noncomputable def Try.pinned : Pinned := { name := "ytjnelnofbpjdmaa", sum := "8d1258ee2897060ef52d3d1c7ebae315d5ba35e4e1457bbf6bd4b81ff09fd9eb", checked := Try.checked }
namespace Rows
def none {H : Type} : Left H := { results := [], args := [] }

/-- 'wayfinderlaw24.ContractRefutes': WHATEVER THE INPUT: true; the input reads as it did. -/
def contractRefutesSpec : ChangeSpec := { name := "contractRefutes", fn := fun _ => fun
  | [d1, d2] => { results := [.lit (.bool true)], args := [d1, d2] }
  | _ => none }
def contractRefutesRow : OpenClaim := { program := "ytjnelnofbpjdmaa", sum := "8d1258ee2897060ef52d3d1c7ebae315d5ba35e4e1457bbf6bd4b81ff09fd9eb", func := "wayfinder/wayfinderlaw24.ContractRefutes", spec := "contractRefutes", unfollowed := true, recurses := true, apart := false }
def ContractRefutesSaid : Prop := contractRefutesRow.holds Try.pinned (OpenSpec.ofChange contractRefutesSpec)

/-- ITS FALSE NEIGHBOUR: 'it returns false'. Refute it at one input. -/
def contractRefutesWrong : ChangeSpec := { name := "contractRefutes", fn := fun _ => fun
  | [d1, d2] => { results := [.lit (.bool false)], args := [d1, d2] }
  | _ => none }
def ContractRefutesWrongFalsely : Prop := contractRefutesRow.holds Try.pinned (OpenSpec.ofChange contractRefutesWrong)

/-- 'wayfinderlaw24.ContractSmaller': WHATEVER THE INPUT: true; the input reads as it did. -/
def contractSmallerSpec : ChangeSpec := { name := "contractSmaller", fn := fun _ => fun
  | [d1, d2, d3] => { results := [.lit (.bool true)], args := [d1, d2, d3] }
  | _ => none }
def contractSmallerRow : OpenClaim := { program := "ytjnelnofbpjdmaa", sum := "8d1258ee2897060ef52d3d1c7ebae315d5ba35e4e1457bbf6bd4b81ff09fd9eb", func := "wayfinder/wayfinderlaw24.ContractSmaller", spec := "contractSmaller", unfollowed := true, recurses := true, apart := false }
def ContractSmallerSaid : Prop := contractSmallerRow.holds Try.pinned (OpenSpec.ofChange contractSmallerSpec)

/-- ITS FALSE NEIGHBOUR: 'it returns false'. Refute it at one input. -/
def contractSmallerWrong : ChangeSpec := { name := "contractSmaller", fn := fun _ => fun
  | [d1, d2, d3] => { results := [.lit (.bool false)], args := [d1, d2, d3] }
  | _ => none }
def ContractSmallerWrongFalsely : Prop := contractSmallerRow.holds Try.pinned (OpenSpec.ofChange contractSmallerWrong)

/-- 'wayfinderlaw24.ContractOnly': WHATEVER THE INPUT: true; the input reads as it did. -/
def contractOnlySpec : ChangeSpec := { name := "contractOnly", fn := fun _ => fun
  | [d1, d2, d3] => { results := [.lit (.bool true)], args := [d1, d2, d3] }
  | _ => none }
def contractOnlyRow : OpenClaim := { program := "ytjnelnofbpjdmaa", sum := "8d1258ee2897060ef52d3d1c7ebae315d5ba35e4e1457bbf6bd4b81ff09fd9eb", func := "wayfinder/wayfinderlaw24.ContractOnly", spec := "contractOnly", unfollowed := true, recurses := true, apart := false }
def ContractOnlySaid : Prop := contractOnlyRow.holds Try.pinned (OpenSpec.ofChange contractOnlySpec)

/-- ITS FALSE NEIGHBOUR: 'it returns false'. Refute it at one input. -/
def contractOnlyWrong : ChangeSpec := { name := "contractOnly", fn := fun _ => fun
  | [d1, d2, d3] => { results := [.lit (.bool false)], args := [d1, d2, d3] }
  | _ => none }
def ContractOnlyWrongFalsely : Prop := contractOnlyRow.holds Try.pinned (OpenSpec.ofChange contractOnlyWrong)

/-- 'wayfinderlaw24.ContractSound': WHATEVER THE INPUT: true; the input reads as it did. -/
def contractSoundSpec : ChangeSpec := { name := "contractSound", fn := fun _ => fun
  | [d1, d2, d3] => { results := [.lit (.bool true)], args := [d1, d2, d3] }
  | _ => none }
def contractSoundRow : OpenClaim := { program := "ytjnelnofbpjdmaa", sum := "8d1258ee2897060ef52d3d1c7ebae315d5ba35e4e1457bbf6bd4b81ff09fd9eb", func := "wayfinder/wayfinderlaw24.ContractSound", spec := "contractSound", unfollowed := true, recurses := true, apart := false }
def ContractSoundSaid : Prop := contractSoundRow.holds Try.pinned (OpenSpec.ofChange contractSoundSpec)

/-- ITS FALSE NEIGHBOUR: 'it returns false'. Refute it at one input. -/
def contractSoundWrong : ChangeSpec := { name := "contractSound", fn := fun _ => fun
  | [d1, d2, d3] => { results := [.lit (.bool false)], args := [d1, d2, d3] }
  | _ => none }
def ContractSoundWrongFalsely : Prop := contractSoundRow.holds Try.pinned (OpenSpec.ofChange contractSoundWrong)

/-- 'wayfinderlaw24.ContractKeeps': WHATEVER THE INPUT: true; the input reads as it did. -/
def contractKeepsSpec : ChangeSpec := { name := "contractKeeps", fn := fun _ => fun
  | [d1, d2, d3] => { results := [.lit (.bool true)], args := [d1, d2, d3] }
  | _ => none }
def contractKeepsRow : OpenClaim := { program := "ytjnelnofbpjdmaa", sum := "8d1258ee2897060ef52d3d1c7ebae315d5ba35e4e1457bbf6bd4b81ff09fd9eb", func := "wayfinder/wayfinderlaw24.ContractKeeps", spec := "contractKeeps", unfollowed := true, recurses := true, apart := false }
def ContractKeepsSaid : Prop := contractKeepsRow.holds Try.pinned (OpenSpec.ofChange contractKeepsSpec)

/-- ITS FALSE NEIGHBOUR: 'it returns false'. Refute it at one input. -/
def contractKeepsWrong : ChangeSpec := { name := "contractKeeps", fn := fun _ => fun
  | [d1, d2, d3] => { results := [.lit (.bool false)], args := [d1, d2, d3] }
  | _ => none }
def ContractKeepsWrongFalsely : Prop := contractKeepsRow.holds Try.pinned (OpenSpec.ofChange contractKeepsWrong)

/- THE SECOND FORM. 'bulk': how many values and letters a reading holds, each counted each time it is reached (what is shared counts as often as it is met; a slice's spare places count too). A statement '..UptoSaid' is the law's where the arguments, and the package variables that the reading takes, are together of bulk at most 1048576: NARROWER than '..Said'. Prove '..Said' where nothing that the law and all that it calls make is longer than what came in: it says more and counts as full. Else prove '..UptoSaid'. A law counts once. -/
mutual
def uptoBulk {H : Type} : DataW H → Nat
  | .lit (.string bytes) => bytes.length + 1
  | .lit _ => 1
  | .nil => 1
  | .ptr d => uptoBulk d + 1
  | .slice elems spare => uptoBulkAll elems + uptoBulkAll spare + 1
  | .agg parts => uptoBulkAll parts + 1
  | .iface _ d => uptoBulk d + 1
  | .map entries => uptoBulkEntries entries + 1
  | .held _ => 1
def uptoBulkAll {H : Type} : List (DataW H) → Nat
  | [] => 0
  | d :: r => uptoBulk d + uptoBulkAll r
def uptoBulkEntries {H : Type} : List (Lit × DataW H) → Nat
  | [] => 0
  | x :: r => uptoBulkEntry x + uptoBulkEntries r
def uptoBulkEntry {H : Type} : Lit × DataW H → Nat
  | (.string bytes, d) => bytes.length + uptoBulk d + 1
  | (_, d) => uptoBulk d + 1
 end
def uptoSmall : (H : Type) → List (DataW H) → Bool := fun _ ds => decide (uptoBulkAll ds ≤ 1048576)
def OpenSpec.upto (s : _root_.Go.ChangeSpec) : _root_.Go.OpenSpec := { _root_.Go.OpenSpec.ofChange s with cond := some uptoSmall }

/-- 'wayfinderlaw24.ContractRefutes', WHERE WHAT IT READS IS OF BULK AT MOST 1048576: true; the input reads as it did. -/
def contractRefutesUptoRow : OpenClaim := { program := "ytjnelnofbpjdmaa", sum := "8d1258ee2897060ef52d3d1c7ebae315d5ba35e4e1457bbf6bd4b81ff09fd9eb", func := "wayfinder/wayfinderlaw24.ContractRefutes", spec := "contractRefutes", unfollowed := true, recurses := true, apart := false, narrowed := true }
def ContractRefutesUptoSaid : Prop := contractRefutesUptoRow.holds Try.pinned (OpenSpec.upto contractRefutesSpec)

/-- 'wayfinderlaw24.ContractSmaller', WHERE WHAT IT READS IS OF BULK AT MOST 1048576: true; the input reads as it did. -/
def contractSmallerUptoRow : OpenClaim := { program := "ytjnelnofbpjdmaa", sum := "8d1258ee2897060ef52d3d1c7ebae315d5ba35e4e1457bbf6bd4b81ff09fd9eb", func := "wayfinder/wayfinderlaw24.ContractSmaller", spec := "contractSmaller", unfollowed := true, recurses := true, apart := false, narrowed := true }
def ContractSmallerUptoSaid : Prop := contractSmallerUptoRow.holds Try.pinned (OpenSpec.upto contractSmallerSpec)

/-- 'wayfinderlaw24.ContractOnly', WHERE WHAT IT READS IS OF BULK AT MOST 1048576: true; the input reads as it did. -/
def contractOnlyUptoRow : OpenClaim := { program := "ytjnelnofbpjdmaa", sum := "8d1258ee2897060ef52d3d1c7ebae315d5ba35e4e1457bbf6bd4b81ff09fd9eb", func := "wayfinder/wayfinderlaw24.ContractOnly", spec := "contractOnly", unfollowed := true, recurses := true, apart := false, narrowed := true }
def ContractOnlyUptoSaid : Prop := contractOnlyUptoRow.holds Try.pinned (OpenSpec.upto contractOnlySpec)

/-- 'wayfinderlaw24.ContractSound', WHERE WHAT IT READS IS OF BULK AT MOST 1048576: true; the input reads as it did. -/
def contractSoundUptoRow : OpenClaim := { program := "ytjnelnofbpjdmaa", sum := "8d1258ee2897060ef52d3d1c7ebae315d5ba35e4e1457bbf6bd4b81ff09fd9eb", func := "wayfinder/wayfinderlaw24.ContractSound", spec := "contractSound", unfollowed := true, recurses := true, apart := false, narrowed := true }
def ContractSoundUptoSaid : Prop := contractSoundUptoRow.holds Try.pinned (OpenSpec.upto contractSoundSpec)

/-- 'wayfinderlaw24.ContractKeeps', WHERE WHAT IT READS IS OF BULK AT MOST 1048576: true; the input reads as it did. -/
def contractKeepsUptoRow : OpenClaim := { program := "ytjnelnofbpjdmaa", sum := "8d1258ee2897060ef52d3d1c7ebae315d5ba35e4e1457bbf6bd4b81ff09fd9eb", func := "wayfinder/wayfinderlaw24.ContractKeeps", spec := "contractKeeps", unfollowed := true, recurses := true, apart := false, narrowed := true }
def ContractKeepsUptoSaid : Prop := contractKeepsUptoRow.holds Try.pinned (OpenSpec.upto contractKeepsSpec)

end Rows
end Go.Proofs.Ytjnelnofbpjdmaa
