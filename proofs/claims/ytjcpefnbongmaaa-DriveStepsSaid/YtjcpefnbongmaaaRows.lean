/-
  No cell of these rows narrows 'for every input' (looked for: loops, veiled, ifaces, maps, wideKeys, modest, calm, conditions, laid).
  DERIVED. THE GIVEN ROWS OF THIS SEAT. 9 by the template 'for every input the law returns true; each argument reads behind the call as it read before'; 0 by the template 'total and deterministic' (their statements: YtjcpefnbongmaaaTotals.lean).
  GIVEN WITH THE SEED: the statements are not yours to turn. If you find one false, say at which input.
  Laid BY PROGRAM, IN A SANDBOX (cutbox-rows.mjs): the forced cells as the released guide's own fill.sh prints them over the translation 20242e7b5a78c3a3… (all of the seat's roots in one cut). By AI agents, Wed Nov 11 2026. No macro, syntax, notation, axiom, sorry.
-/
import Derived.Test.YtjcpefnbongmaaaChecked
import GoSem.Claim
import GoSem.ClaimJoined
import GoSem.ClaimMapViews
import Derived.JoinedTies
import Derived.KernelRfl
namespace Go.Proofs.Ytjcpefnbongmaaa
/- THE CELL 'sum', in the pinned program and in every row, IS THE sha256 OF THE DUMP (.gsa) THAT YtjcpefnbongmaaaProg.lean LOADS. Nothing in Lean hashes anything: it is a label: what it is worth is what the hold of that sum in a sandbox is worth. -/
noncomputable def Try.pinned : Pinned := { name := "ytjcpefnbongmaaa", sum := "20242e7b5a78c3a3e68e823d2fe567d238792f6e8ee51b7e010122c9e3415881", checked := Try.checked }
namespace Rows
def none {H : Type} : Left H := { results := [], args := [] }

/-- 'wayfinderlaw11.DriveNext': WHATEVER THE INPUT: true; the input reads as it did. -/
def driveNextSpec : ChangeSpec := { name := "driveNext", fn := fun _ => fun
  | [d1, d2] => { results := [.lit (.bool true)], args := [d1, d2] }
  | _ => none }
def driveNextRow : OpenClaim := { program := "ytjcpefnbongmaaa", sum := "20242e7b5a78c3a3e68e823d2fe567d238792f6e8ee51b7e010122c9e3415881", func := "wayfinder/wayfinderlaw11.DriveNext", spec := "driveNext", apart := false }
def DriveNextSaid : Prop := driveNextRow.holds Try.pinned (OpenSpec.ofChange driveNextSpec)

/-- ITS FALSE NEIGHBOUR: 'it returns false'. Refute it at one input. -/
def driveNextWrong : ChangeSpec := { name := "driveNext", fn := fun _ => fun
  | [d1, d2] => { results := [.lit (.bool false)], args := [d1, d2] }
  | _ => none }
def DriveNextWrongFalsely : Prop := driveNextRow.holds Try.pinned (OpenSpec.ofChange driveNextWrong)

/-- 'wayfinderlaw11.DriveReaches': WHATEVER THE INPUT: true; the input reads as it did. -/
def driveReachesSpec : ChangeSpec := { name := "driveReaches", fn := fun _ => fun
  | [d1, d2, d3] => { results := [.lit (.bool true)], args := [d1, d2, d3] }
  | _ => none }
def driveReachesRow : OpenClaim := { program := "ytjcpefnbongmaaa", sum := "20242e7b5a78c3a3e68e823d2fe567d238792f6e8ee51b7e010122c9e3415881", func := "wayfinder/wayfinderlaw11.DriveReaches", spec := "driveReaches", apart := false }
def DriveReachesSaid : Prop := driveReachesRow.holds Try.pinned (OpenSpec.ofChange driveReachesSpec)

/-- ITS FALSE NEIGHBOUR: 'it returns false'. Refute it at one input. -/
def driveReachesWrong : ChangeSpec := { name := "driveReaches", fn := fun _ => fun
  | [d1, d2, d3] => { results := [.lit (.bool false)], args := [d1, d2, d3] }
  | _ => none }
def DriveReachesWrongFalsely : Prop := driveReachesRow.holds Try.pinned (OpenSpec.ofChange driveReachesWrong)

/-- 'wayfinderlaw11.DriveValid': WHATEVER THE INPUT: true; the input reads as it did. -/
def driveValidSpec : ChangeSpec := { name := "driveValid", fn := fun _ => fun
  | [d1, d2] => { results := [.lit (.bool true)], args := [d1, d2] }
  | _ => none }
def driveValidRow : OpenClaim := { program := "ytjcpefnbongmaaa", sum := "20242e7b5a78c3a3e68e823d2fe567d238792f6e8ee51b7e010122c9e3415881", func := "wayfinder/wayfinderlaw11.DriveValid", spec := "driveValid", unfollowed := true, recurses := true, apart := false }
def DriveValidSaid : Prop := driveValidRow.holds Try.pinned (OpenSpec.ofChange driveValidSpec)

/-- ITS FALSE NEIGHBOUR: 'it returns false'. Refute it at one input. -/
def driveValidWrong : ChangeSpec := { name := "driveValid", fn := fun _ => fun
  | [d1, d2] => { results := [.lit (.bool false)], args := [d1, d2] }
  | _ => none }
def DriveValidWrongFalsely : Prop := driveValidRow.holds Try.pinned (OpenSpec.ofChange driveValidWrong)

/-- 'wayfinderlaw11.DriveWithin': WHATEVER THE INPUT: true; the input reads as it did. -/
def driveWithinSpec : ChangeSpec := { name := "driveWithin", fn := fun _ => fun
  | [d1, d2, d3] => { results := [.lit (.bool true)], args := [d1, d2, d3] }
  | _ => none }
def driveWithinRow : OpenClaim := { program := "ytjcpefnbongmaaa", sum := "20242e7b5a78c3a3e68e823d2fe567d238792f6e8ee51b7e010122c9e3415881", func := "wayfinder/wayfinderlaw11.DriveWithin", spec := "driveWithin", apart := false }
def DriveWithinSaid : Prop := driveWithinRow.holds Try.pinned (OpenSpec.ofChange driveWithinSpec)

/-- ITS FALSE NEIGHBOUR: 'it returns false'. Refute it at one input. -/
def driveWithinWrong : ChangeSpec := { name := "driveWithin", fn := fun _ => fun
  | [d1, d2, d3] => { results := [.lit (.bool false)], args := [d1, d2, d3] }
  | _ => none }
def DriveWithinWrongFalsely : Prop := driveWithinRow.holds Try.pinned (OpenSpec.ofChange driveWithinWrong)

/-- 'wayfinderlaw11.DriveFollows': WHATEVER THE INPUT: true; the input reads as it did. -/
def driveFollowsSpec : ChangeSpec := { name := "driveFollows", fn := fun _ => fun
  | [d1, d2, d3] => { results := [.lit (.bool true)], args := [d1, d2, d3] }
  | _ => none }
def driveFollowsRow : OpenClaim := { program := "ytjcpefnbongmaaa", sum := "20242e7b5a78c3a3e68e823d2fe567d238792f6e8ee51b7e010122c9e3415881", func := "wayfinder/wayfinderlaw11.DriveFollows", spec := "driveFollows", unfollowed := true, recurses := true, apart := false }
def DriveFollowsSaid : Prop := driveFollowsRow.holds Try.pinned (OpenSpec.ofChange driveFollowsSpec)

/-- ITS FALSE NEIGHBOUR: 'it returns false'. Refute it at one input. -/
def driveFollowsWrong : ChangeSpec := { name := "driveFollows", fn := fun _ => fun
  | [d1, d2, d3] => { results := [.lit (.bool false)], args := [d1, d2, d3] }
  | _ => none }
def DriveFollowsWrongFalsely : Prop := driveFollowsRow.holds Try.pinned (OpenSpec.ofChange driveFollowsWrong)

/-- 'wayfinderlaw11.DriveBlocked': WHATEVER THE INPUT: true; the input reads as it did. -/
def driveBlockedSpec : ChangeSpec := { name := "driveBlocked", fn := fun _ => fun
  | [d1, d2, d3] => { results := [.lit (.bool true)], args := [d1, d2, d3] }
  | _ => none }
def driveBlockedRow : OpenClaim := { program := "ytjcpefnbongmaaa", sum := "20242e7b5a78c3a3e68e823d2fe567d238792f6e8ee51b7e010122c9e3415881", func := "wayfinder/wayfinderlaw11.DriveBlocked", spec := "driveBlocked", inPlace := ["internal/bytealg.Count", "internal/bytealg.IndexByte", "internal/bytealg.Index"], named := ["internal/bytealg.MaxLen"], apart := false }
def DriveBlockedSaid : Prop := driveBlockedRow.holds Try.pinned (OpenSpec.ofChange driveBlockedSpec)

/-- ITS FALSE NEIGHBOUR: 'it returns false'. Refute it at one input. -/
def driveBlockedWrong : ChangeSpec := { name := "driveBlocked", fn := fun _ => fun
  | [d1, d2, d3] => { results := [.lit (.bool false)], args := [d1, d2, d3] }
  | _ => none }
def DriveBlockedWrongFalsely : Prop := driveBlockedRow.holds Try.pinned (OpenSpec.ofChange driveBlockedWrong)

/-- 'wayfinderlaw11.DriveFrees': WHATEVER THE INPUT: true; the input reads as it did. -/
def driveFreesSpec : ChangeSpec := { name := "driveFrees", fn := fun _ => fun
  | [d1, d2, d3] => { results := [.lit (.bool true)], args := [d1, d2, d3] }
  | _ => none }
def driveFreesRow : OpenClaim := { program := "ytjcpefnbongmaaa", sum := "20242e7b5a78c3a3e68e823d2fe567d238792f6e8ee51b7e010122c9e3415881", func := "wayfinder/wayfinderlaw11.DriveFrees", spec := "driveFrees", inPlace := ["internal/bytealg.Count", "internal/bytealg.IndexByte", "internal/bytealg.Index"], named := ["internal/bytealg.MaxLen"], apart := false }
def DriveFreesSaid : Prop := driveFreesRow.holds Try.pinned (OpenSpec.ofChange driveFreesSpec)

/-- ITS FALSE NEIGHBOUR: 'it returns false'. Refute it at one input. -/
def driveFreesWrong : ChangeSpec := { name := "driveFrees", fn := fun _ => fun
  | [d1, d2, d3] => { results := [.lit (.bool false)], args := [d1, d2, d3] }
  | _ => none }
def DriveFreesWrongFalsely : Prop := driveFreesRow.holds Try.pinned (OpenSpec.ofChange driveFreesWrong)

/-- 'wayfinderlaw11.DriveSteps': WHATEVER THE INPUT: true; the input reads as it did. -/
def driveStepsSpec : ChangeSpec := { name := "driveSteps", fn := fun _ => fun
  | [d1, d2, d3] => { results := [.lit (.bool true)], args := [d1, d2, d3] }
  | _ => none }
def driveStepsRow : OpenClaim := { program := "ytjcpefnbongmaaa", sum := "20242e7b5a78c3a3e68e823d2fe567d238792f6e8ee51b7e010122c9e3415881", func := "wayfinder/wayfinderlaw11.DriveSteps", spec := "driveSteps", inPlace := ["internal/bytealg.Count", "internal/bytealg.IndexByte", "internal/bytealg.Index"], named := ["internal/bytealg.MaxLen"], apart := false }
def DriveStepsSaid : Prop := driveStepsRow.holds Try.pinned (OpenSpec.ofChange driveStepsSpec)

/-- ITS FALSE NEIGHBOUR: 'it returns false'. Refute it at one input. -/
def driveStepsWrong : ChangeSpec := { name := "driveSteps", fn := fun _ => fun
  | [d1, d2, d3] => { results := [.lit (.bool false)], args := [d1, d2, d3] }
  | _ => none }
def DriveStepsWrongFalsely : Prop := driveStepsRow.holds Try.pinned (OpenSpec.ofChange driveStepsWrong)

/-- 'wayfinderlaw11.DriveKeeps': WHATEVER THE INPUT: true; the input reads as it did. -/
def driveKeepsSpec : ChangeSpec := { name := "driveKeeps", fn := fun _ => fun
  | [d1, d2, d3] => { results := [.lit (.bool true)], args := [d1, d2, d3] }
  | _ => none }
def driveKeepsRow : OpenClaim := { program := "ytjcpefnbongmaaa", sum := "20242e7b5a78c3a3e68e823d2fe567d238792f6e8ee51b7e010122c9e3415881", func := "wayfinder/wayfinderlaw11.DriveKeeps", spec := "driveKeeps", inPlace := ["internal/bytealg.Count", "internal/bytealg.IndexByte", "internal/bytealg.Index"], unfollowed := true, recurses := true, named := ["internal/bytealg.MaxLen"], apart := false }
def DriveKeepsSaid : Prop := driveKeepsRow.holds Try.pinned (OpenSpec.ofChange driveKeepsSpec)

/-- ITS FALSE NEIGHBOUR: 'it returns false'. Refute it at one input. -/
def driveKeepsWrong : ChangeSpec := { name := "driveKeeps", fn := fun _ => fun
  | [d1, d2, d3] => { results := [.lit (.bool false)], args := [d1, d2, d3] }
  | _ => none }
def DriveKeepsWrongFalsely : Prop := driveKeepsRow.holds Try.pinned (OpenSpec.ofChange driveKeepsWrong)

/- THE SECOND FORM. 'bulk': how many values and letters a reading holds, each counted each time it is reached (what is shared counts as often as it is met; a slice's spare places count too). A statement '..UptoSaid' is the law's where the arguments, and the package variables that the reading takes, are together of bulk at most 1048576: NARROWER than '..Said'. Prove '..Said' where nothing that the law and all that it calls make is longer than what came in: it says more and counts as full. Else prove '..UptoSaid'. A law counts once. -/
mutual
def uptoBulk {H : Type} : DataW H → Nat
  | .lit (.string bytes) => bytes.length + 1
  | .lit _ => 1
  | .nil => 1
  | .ptr d => uptoBulk d + 1
  | .slice elems spare => uptoBulkAll elems + uptoBulkAll spare + 1
  | .agg parts => uptoBulkAll parts + 1
  | .iface _ d => uptoBulk d + 1
  | .map entries => uptoBulkEntries entries + 1
  | .held _ => 1
def uptoBulkAll {H : Type} : List (DataW H) → Nat
  | [] => 0
  | d :: r => uptoBulk d + uptoBulkAll r
def uptoBulkEntries {H : Type} : List (Lit × DataW H) → Nat
  | [] => 0
  | x :: r => uptoBulkEntry x + uptoBulkEntries r
def uptoBulkEntry {H : Type} : Lit × DataW H → Nat
  | (.string bytes, d) => bytes.length + uptoBulk d + 1
  | (_, d) => uptoBulk d + 1
 end
def uptoSmall : (H : Type) → List (DataW H) → Bool := fun _ ds => decide (uptoBulkAll ds ≤ 1048576)
def OpenSpec.upto (s : _root_.Go.ChangeSpec) : _root_.Go.OpenSpec := { _root_.Go.OpenSpec.ofChange s with cond := some uptoSmall }

/-- 'wayfinderlaw11.DriveNext', WHERE WHAT IT READS IS OF BULK AT MOST 1048576: true; the input reads as it did. -/
def driveNextUptoRow : OpenClaim := { program := "ytjcpefnbongmaaa", sum := "20242e7b5a78c3a3e68e823d2fe567d238792f6e8ee51b7e010122c9e3415881", func := "wayfinder/wayfinderlaw11.DriveNext", spec := "driveNext", apart := false, narrowed := true }
def DriveNextUptoSaid : Prop := driveNextUptoRow.holds Try.pinned (OpenSpec.upto driveNextSpec)

/-- 'wayfinderlaw11.DriveReaches', WHERE WHAT IT READS IS OF BULK AT MOST 1048576: true; the input reads as it did. -/
def driveReachesUptoRow : OpenClaim := { program := "ytjcpefnbongmaaa", sum := "20242e7b5a78c3a3e68e823d2fe567d238792f6e8ee51b7e010122c9e3415881", func := "wayfinder/wayfinderlaw11.DriveReaches", spec := "driveReaches", apart := false, narrowed := true }
def DriveReachesUptoSaid : Prop := driveReachesUptoRow.holds Try.pinned (OpenSpec.upto driveReachesSpec)

/-- 'wayfinderlaw11.DriveValid', WHERE WHAT IT READS IS OF BULK AT MOST 1048576: true; the input reads as it did. -/
def driveValidUptoRow : OpenClaim := { program := "ytjcpefnbongmaaa", sum := "20242e7b5a78c3a3e68e823d2fe567d238792f6e8ee51b7e010122c9e3415881", func := "wayfinder/wayfinderlaw11.DriveValid", spec := "driveValid", unfollowed := true, recurses := true, apart := false, narrowed := true }
def DriveValidUptoSaid : Prop := driveValidUptoRow.holds Try.pinned (OpenSpec.upto driveValidSpec)

/-- 'wayfinderlaw11.DriveWithin', WHERE WHAT IT READS IS OF BULK AT MOST 1048576: true; the input reads as it did. -/
def driveWithinUptoRow : OpenClaim := { program := "ytjcpefnbongmaaa", sum := "20242e7b5a78c3a3e68e823d2fe567d238792f6e8ee51b7e010122c9e3415881", func := "wayfinder/wayfinderlaw11.DriveWithin", spec := "driveWithin", apart := false, narrowed := true }
def DriveWithinUptoSaid : Prop := driveWithinUptoRow.holds Try.pinned (OpenSpec.upto driveWithinSpec)

/-- 'wayfinderlaw11.DriveFollows', WHERE WHAT IT READS IS OF BULK AT MOST 1048576: true; the input reads as it did. -/
def driveFollowsUptoRow : OpenClaim := { program := "ytjcpefnbongmaaa", sum := "20242e7b5a78c3a3e68e823d2fe567d238792f6e8ee51b7e010122c9e3415881", func := "wayfinder/wayfinderlaw11.DriveFollows", spec := "driveFollows", unfollowed := true, recurses := true, apart := false, narrowed := true }
def DriveFollowsUptoSaid : Prop := driveFollowsUptoRow.holds Try.pinned (OpenSpec.upto driveFollowsSpec)

/-- 'wayfinderlaw11.DriveBlocked', WHERE WHAT IT READS IS OF BULK AT MOST 1048576: true; the input reads as it did. -/
def driveBlockedUptoRow : OpenClaim := { program := "ytjcpefnbongmaaa", sum := "20242e7b5a78c3a3e68e823d2fe567d238792f6e8ee51b7e010122c9e3415881", func := "wayfinder/wayfinderlaw11.DriveBlocked", spec := "driveBlocked", inPlace := ["internal/bytealg.Count", "internal/bytealg.IndexByte", "internal/bytealg.Index"], named := ["internal/bytealg.MaxLen"], apart := false, narrowed := true }
def DriveBlockedUptoSaid : Prop := driveBlockedUptoRow.holds Try.pinned (OpenSpec.upto driveBlockedSpec)

/-- 'wayfinderlaw11.DriveFrees', WHERE WHAT IT READS IS OF BULK AT MOST 1048576: true; the input reads as it did. -/
def driveFreesUptoRow : OpenClaim := { program := "ytjcpefnbongmaaa", sum := "20242e7b5a78c3a3e68e823d2fe567d238792f6e8ee51b7e010122c9e3415881", func := "wayfinder/wayfinderlaw11.DriveFrees", spec := "driveFrees", inPlace := ["internal/bytealg.Count", "internal/bytealg.IndexByte", "internal/bytealg.Index"], named := ["internal/bytealg.MaxLen"], apart := false, narrowed := true }
def DriveFreesUptoSaid : Prop := driveFreesUptoRow.holds Try.pinned (OpenSpec.upto driveFreesSpec)

/-- 'wayfinderlaw11.DriveSteps', WHERE WHAT IT READS IS OF BULK AT MOST 1048576: true; the input reads as it did. -/
def driveStepsUptoRow : OpenClaim := { program := "ytjcpefnbongmaaa", sum := "20242e7b5a78c3a3e68e823d2fe567d238792f6e8ee51b7e010122c9e3415881", func := "wayfinder/wayfinderlaw11.DriveSteps", spec := "driveSteps", inPlace := ["internal/bytealg.Count", "internal/bytealg.IndexByte", "internal/bytealg.Index"], named := ["internal/bytealg.MaxLen"], apart := false, narrowed := true }
def DriveStepsUptoSaid : Prop := driveStepsUptoRow.holds Try.pinned (OpenSpec.upto driveStepsSpec)

/-- 'wayfinderlaw11.DriveKeeps', WHERE WHAT IT READS IS OF BULK AT MOST 1048576: true; the input reads as it did. -/
def driveKeepsUptoRow : OpenClaim := { program := "ytjcpefnbongmaaa", sum := "20242e7b5a78c3a3e68e823d2fe567d238792f6e8ee51b7e010122c9e3415881", func := "wayfinder/wayfinderlaw11.DriveKeeps", spec := "driveKeeps", inPlace := ["internal/bytealg.Count", "internal/bytealg.IndexByte", "internal/bytealg.Index"], unfollowed := true, recurses := true, named := ["internal/bytealg.MaxLen"], apart := false, narrowed := true }
def DriveKeepsUptoSaid : Prop := driveKeepsUptoRow.holds Try.pinned (OpenSpec.upto driveKeepsSpec)

end Rows
end Go.Proofs.Ytjcpefnbongmaaa
