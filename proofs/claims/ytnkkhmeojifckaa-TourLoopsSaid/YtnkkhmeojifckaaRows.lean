/-
  No cell of these rows narrows 'for every input' (looked for: loops, veiled, ifaces, maps, wideKeys, modest, calm, conditions, laid).
  DERIVED. THE GIVEN ROWS OF THIS SEAT. 8 by the template 'for every input the law returns true; each argument reads behind the call as it read before'; 0 by the template 'total and deterministic' (their statements: YtnkkhmeojifckaaTotals.lean).
  GIVEN WITH THE SEED: the statements are not yours to turn. If you find one false, say at which input.
  Laid BY PROGRAM, IN A SANDBOX (cutbox-rows.mjs): the forced cells as the released guide's own fill.sh prints them over the translation 17c04486826cd133… (all of the seat's roots in one cut). By AI agents, Wed Nov 11 2026. No macro, syntax, notation, axiom, sorry.
-/
import Derived.Test.YtnkkhmeojifckaaChecked
import GoSem.Claim
import GoSem.ClaimJoined
import GoSem.ClaimMapViews
import Derived.JoinedTies
import Derived.KernelRfl
namespace Go.Proofs.Ytnkkhmeojifckaa
/- THE CELL 'sum', in the pinned program and in every row, IS THE sha256 OF THE DUMP (.gsa) THAT YtnkkhmeojifckaaProg.lean LOADS. Nothing in Lean hashes anything: it is a label: what it is worth is what the hold of that sum in a sandbox is worth. -/
noncomputable def Try.pinned : Pinned := { name := "ytnkkhmeojifckaa", sum := "17c04486826cd133fd3e8c6db1002762543ddb3703f16fdb20ca80c3d3a362b7", checked := Try.checked }
namespace Rows
def none {H : Type} : Left H := { results := [], args := [] }

/-- 'wayfinderlaw39.TourCovers': WHATEVER THE INPUT: true; the input reads as it did. -/
def tourCoversSpec : ChangeSpec := { name := "tourCovers", fn := fun _ => fun
  | [d1, d2] => { results := [.lit (.bool true)], args := [d1, d2] }
  | _ => none }
def tourCoversRow : OpenClaim := { program := "ytnkkhmeojifckaa", sum := "17c04486826cd133fd3e8c6db1002762543ddb3703f16fdb20ca80c3d3a362b7", func := "wayfinder/wayfinderlaw39.TourCovers", spec := "tourCovers", inPlace := ["internal/bytealg.Count", "internal/bytealg.IndexByte", "internal/bytealg.Index"], named := ["internal/bytealg.MaxLen"], plainKeys := false, apart := false }
def TourCoversSaid : Prop := tourCoversRow.holds Try.pinned (OpenSpec.ofChange tourCoversSpec)

/-- ITS FALSE NEIGHBOUR: 'it returns false'. Refute it at one input. -/
def tourCoversWrong : ChangeSpec := { name := "tourCovers", fn := fun _ => fun
  | [d1, d2] => { results := [.lit (.bool false)], args := [d1, d2] }
  | _ => none }
def TourCoversWrongFalsely : Prop := tourCoversRow.holds Try.pinned (OpenSpec.ofChange tourCoversWrong)

/-- 'wayfinderlaw39.TourAgain': WHATEVER THE INPUT: true; the input reads as it did. -/
def tourAgainSpec : ChangeSpec := { name := "tourAgain", fn := fun _ => fun
  | [d1, d2] => { results := [.lit (.bool true)], args := [d1, d2] }
  | _ => none }
def tourAgainRow : OpenClaim := { program := "ytnkkhmeojifckaa", sum := "17c04486826cd133fd3e8c6db1002762543ddb3703f16fdb20ca80c3d3a362b7", func := "wayfinder/wayfinderlaw39.TourAgain", spec := "tourAgain", inPlace := ["internal/bytealg.Count", "internal/bytealg.IndexByte", "internal/bytealg.Index"], named := ["internal/bytealg.MaxLen"], plainKeys := false, apart := false }
def TourAgainSaid : Prop := tourAgainRow.holds Try.pinned (OpenSpec.ofChange tourAgainSpec)

/-- ITS FALSE NEIGHBOUR: 'it returns false'. Refute it at one input. -/
def tourAgainWrong : ChangeSpec := { name := "tourAgain", fn := fun _ => fun
  | [d1, d2] => { results := [.lit (.bool false)], args := [d1, d2] }
  | _ => none }
def TourAgainWrongFalsely : Prop := tourAgainRow.holds Try.pinned (OpenSpec.ofChange tourAgainWrong)

/-- 'wayfinderlaw39.TourLoops': WHATEVER THE INPUT: true; the input reads as it did. -/
def tourLoopsSpec : ChangeSpec := { name := "tourLoops", fn := fun _ => fun
  | [d] => { results := [.lit (.bool true)], args := [d] }
  | _ => none }
def tourLoopsRow : OpenClaim := { program := "ytnkkhmeojifckaa", sum := "17c04486826cd133fd3e8c6db1002762543ddb3703f16fdb20ca80c3d3a362b7", func := "wayfinder/wayfinderlaw39.TourLoops", spec := "tourLoops", inPlace := ["internal/bytealg.Count", "internal/bytealg.IndexByte", "internal/bytealg.Index"], named := ["internal/bytealg.MaxLen"], plainKeys := false, apart := false }
def TourLoopsSaid : Prop := tourLoopsRow.holds Try.pinned (OpenSpec.ofChange tourLoopsSpec)

/-- ITS FALSE NEIGHBOUR: 'it returns false'. Refute it at one input. -/
def tourLoopsWrong : ChangeSpec := { name := "tourLoops", fn := fun _ => fun
  | [d] => { results := [.lit (.bool false)], args := [d] }
  | _ => none }
def TourLoopsWrongFalsely : Prop := tourLoopsRow.holds Try.pinned (OpenSpec.ofChange tourLoopsWrong)

/-- 'wayfinderlaw39.TourDoubles': WHATEVER THE INPUT: true; the input reads as it did. -/
def tourDoublesSpec : ChangeSpec := { name := "tourDoubles", fn := fun _ => fun
  | [d1, d2] => { results := [.lit (.bool true)], args := [d1, d2] }
  | _ => none }
def tourDoublesRow : OpenClaim := { program := "ytnkkhmeojifckaa", sum := "17c04486826cd133fd3e8c6db1002762543ddb3703f16fdb20ca80c3d3a362b7", func := "wayfinder/wayfinderlaw39.TourDoubles", spec := "tourDoubles", inPlace := ["internal/bytealg.Count", "internal/bytealg.IndexByte", "internal/bytealg.Index"], named := ["internal/bytealg.MaxLen"], plainKeys := false, apart := false }
def TourDoublesSaid : Prop := tourDoublesRow.holds Try.pinned (OpenSpec.ofChange tourDoublesSpec)

/-- ITS FALSE NEIGHBOUR: 'it returns false'. Refute it at one input. -/
def tourDoublesWrong : ChangeSpec := { name := "tourDoubles", fn := fun _ => fun
  | [d1, d2] => { results := [.lit (.bool false)], args := [d1, d2] }
  | _ => none }
def TourDoublesWrongFalsely : Prop := tourDoublesRow.holds Try.pinned (OpenSpec.ofChange tourDoublesWrong)

/-- 'wayfinderlaw39.TourChecks': WHATEVER THE INPUT: true; the input reads as it did. -/
def tourChecksSpec : ChangeSpec := { name := "tourChecks", fn := fun _ => fun
  | [d1, d2] => { results := [.lit (.bool true)], args := [d1, d2] }
  | _ => none }
def tourChecksRow : OpenClaim := { program := "ytnkkhmeojifckaa", sum := "17c04486826cd133fd3e8c6db1002762543ddb3703f16fdb20ca80c3d3a362b7", func := "wayfinder/wayfinderlaw39.TourChecks", spec := "tourChecks", inPlace := ["internal/bytealg.Count", "internal/bytealg.IndexByte", "internal/bytealg.Index"], named := ["internal/bytealg.MaxLen"], plainKeys := false, apart := false }
def TourChecksSaid : Prop := tourChecksRow.holds Try.pinned (OpenSpec.ofChange tourChecksSpec)

/-- ITS FALSE NEIGHBOUR: 'it returns false'. Refute it at one input. -/
def tourChecksWrong : ChangeSpec := { name := "tourChecks", fn := fun _ => fun
  | [d1, d2] => { results := [.lit (.bool false)], args := [d1, d2] }
  | _ => none }
def TourChecksWrongFalsely : Prop := tourChecksRow.holds Try.pinned (OpenSpec.ofChange tourChecksWrong)

/-- 'wayfinderlaw39.TourLanes': WHATEVER THE INPUT: true; the input reads as it did. -/
def tourLanesSpec : ChangeSpec := { name := "tourLanes", fn := fun _ => fun
  | [d] => { results := [.lit (.bool true)], args := [d] }
  | _ => none }
def tourLanesRow : OpenClaim := { program := "ytnkkhmeojifckaa", sum := "17c04486826cd133fd3e8c6db1002762543ddb3703f16fdb20ca80c3d3a362b7", func := "wayfinder/wayfinderlaw39.TourLanes", spec := "tourLanes", inPlace := ["internal/bytealg.Count", "internal/bytealg.IndexByte", "internal/bytealg.Index"], named := ["internal/bytealg.MaxLen"], plainKeys := false, apart := false }
def TourLanesSaid : Prop := tourLanesRow.holds Try.pinned (OpenSpec.ofChange tourLanesSpec)

/-- ITS FALSE NEIGHBOUR: 'it returns false'. Refute it at one input. -/
def tourLanesWrong : ChangeSpec := { name := "tourLanes", fn := fun _ => fun
  | [d] => { results := [.lit (.bool false)], args := [d] }
  | _ => none }
def TourLanesWrongFalsely : Prop := tourLanesRow.holds Try.pinned (OpenSpec.ofChange tourLanesWrong)

/-- 'wayfinderlaw39.TourDisjoint': WHATEVER THE INPUT: true; the input reads as it did. -/
def tourDisjointSpec : ChangeSpec := { name := "tourDisjoint", fn := fun _ => fun
  | [d] => { results := [.lit (.bool true)], args := [d] }
  | _ => none }
def tourDisjointRow : OpenClaim := { program := "ytnkkhmeojifckaa", sum := "17c04486826cd133fd3e8c6db1002762543ddb3703f16fdb20ca80c3d3a362b7", func := "wayfinder/wayfinderlaw39.TourDisjoint", spec := "tourDisjoint", inPlace := ["internal/bytealg.Count", "internal/bytealg.IndexByte", "internal/bytealg.Index"], named := ["internal/bytealg.MaxLen"], plainKeys := false, apart := false }
def TourDisjointSaid : Prop := tourDisjointRow.holds Try.pinned (OpenSpec.ofChange tourDisjointSpec)

/-- ITS FALSE NEIGHBOUR: 'it returns false'. Refute it at one input. -/
def tourDisjointWrong : ChangeSpec := { name := "tourDisjoint", fn := fun _ => fun
  | [d] => { results := [.lit (.bool false)], args := [d] }
  | _ => none }
def TourDisjointWrongFalsely : Prop := tourDisjointRow.holds Try.pinned (OpenSpec.ofChange tourDisjointWrong)

/-- 'wayfinderlaw39.TourBends': WHATEVER THE INPUT: true; the input reads as it did. -/
def tourBendsSpec : ChangeSpec := { name := "tourBends", fn := fun _ => fun
  | [d] => { results := [.lit (.bool true)], args := [d] }
  | _ => none }
def tourBendsRow : OpenClaim := { program := "ytnkkhmeojifckaa", sum := "17c04486826cd133fd3e8c6db1002762543ddb3703f16fdb20ca80c3d3a362b7", func := "wayfinder/wayfinderlaw39.TourBends", spec := "tourBends", inPlace := ["internal/bytealg.Count", "internal/bytealg.IndexByte", "internal/bytealg.Index"], named := ["internal/bytealg.MaxLen"], plainKeys := false, apart := false }
def TourBendsSaid : Prop := tourBendsRow.holds Try.pinned (OpenSpec.ofChange tourBendsSpec)

/-- ITS FALSE NEIGHBOUR: 'it returns false'. Refute it at one input. -/
def tourBendsWrong : ChangeSpec := { name := "tourBends", fn := fun _ => fun
  | [d] => { results := [.lit (.bool false)], args := [d] }
  | _ => none }
def TourBendsWrongFalsely : Prop := tourBendsRow.holds Try.pinned (OpenSpec.ofChange tourBendsWrong)

/- THE SECOND FORM. 'bulk': how many values and letters a reading holds, each counted each time it is reached (what is shared counts as often as it is met; a slice's spare places count too). A statement '..UptoSaid' is the law's where the arguments, and the package variables that the reading takes, are together of bulk at most 1048576: NARROWER than '..Said'. Prove '..Said' where nothing that the law and all that it calls make is longer than what came in: it says more and counts as full. Else prove '..UptoSaid'. A law counts once. -/
mutual
def uptoBulk {H : Type} : DataW H → Nat
  | .lit (.string bytes) => bytes.length + 1
  | .lit _ => 1
  | .nil => 1
  | .ptr d => uptoBulk d + 1
  | .slice elems spare => uptoBulkAll elems + uptoBulkAll spare + 1
  | .agg parts => uptoBulkAll parts + 1
  | .iface _ d => uptoBulk d + 1
  | .map entries => uptoBulkEntries entries + 1
  | .held _ => 1
def uptoBulkAll {H : Type} : List (DataW H) → Nat
  | [] => 0
  | d :: r => uptoBulk d + uptoBulkAll r
def uptoBulkEntries {H : Type} : List (Lit × DataW H) → Nat
  | [] => 0
  | x :: r => uptoBulkEntry x + uptoBulkEntries r
def uptoBulkEntry {H : Type} : Lit × DataW H → Nat
  | (.string bytes, d) => bytes.length + uptoBulk d + 1
  | (_, d) => uptoBulk d + 1
 end
def uptoSmall : (H : Type) → List (DataW H) → Bool := fun _ ds => decide (uptoBulkAll ds ≤ 1048576)
def OpenSpec.upto (s : _root_.Go.ChangeSpec) : _root_.Go.OpenSpec := { _root_.Go.OpenSpec.ofChange s with cond := some uptoSmall }

/-- 'wayfinderlaw39.TourCovers', WHERE WHAT IT READS IS OF BULK AT MOST 1048576: true; the input reads as it did. -/
def tourCoversUptoRow : OpenClaim := { program := "ytnkkhmeojifckaa", sum := "17c04486826cd133fd3e8c6db1002762543ddb3703f16fdb20ca80c3d3a362b7", func := "wayfinder/wayfinderlaw39.TourCovers", spec := "tourCovers", inPlace := ["internal/bytealg.Count", "internal/bytealg.IndexByte", "internal/bytealg.Index"], named := ["internal/bytealg.MaxLen"], plainKeys := false, apart := false, narrowed := true }
def TourCoversUptoSaid : Prop := tourCoversUptoRow.holds Try.pinned (OpenSpec.upto tourCoversSpec)

/-- 'wayfinderlaw39.TourAgain', WHERE WHAT IT READS IS OF BULK AT MOST 1048576: true; the input reads as it did. -/
def tourAgainUptoRow : OpenClaim := { program := "ytnkkhmeojifckaa", sum := "17c04486826cd133fd3e8c6db1002762543ddb3703f16fdb20ca80c3d3a362b7", func := "wayfinder/wayfinderlaw39.TourAgain", spec := "tourAgain", inPlace := ["internal/bytealg.Count", "internal/bytealg.IndexByte", "internal/bytealg.Index"], named := ["internal/bytealg.MaxLen"], plainKeys := false, apart := false, narrowed := true }
def TourAgainUptoSaid : Prop := tourAgainUptoRow.holds Try.pinned (OpenSpec.upto tourAgainSpec)

/-- 'wayfinderlaw39.TourLoops', WHERE WHAT IT READS IS OF BULK AT MOST 1048576: true; the input reads as it did. -/
def tourLoopsUptoRow : OpenClaim := { program := "ytnkkhmeojifckaa", sum := "17c04486826cd133fd3e8c6db1002762543ddb3703f16fdb20ca80c3d3a362b7", func := "wayfinder/wayfinderlaw39.TourLoops", spec := "tourLoops", inPlace := ["internal/bytealg.Count", "internal/bytealg.IndexByte", "internal/bytealg.Index"], named := ["internal/bytealg.MaxLen"], plainKeys := false, apart := false, narrowed := true }
def TourLoopsUptoSaid : Prop := tourLoopsUptoRow.holds Try.pinned (OpenSpec.upto tourLoopsSpec)

/-- 'wayfinderlaw39.TourDoubles', WHERE WHAT IT READS IS OF BULK AT MOST 1048576: true; the input reads as it did. -/
def tourDoublesUptoRow : OpenClaim := { program := "ytnkkhmeojifckaa", sum := "17c04486826cd133fd3e8c6db1002762543ddb3703f16fdb20ca80c3d3a362b7", func := "wayfinder/wayfinderlaw39.TourDoubles", spec := "tourDoubles", inPlace := ["internal/bytealg.Count", "internal/bytealg.IndexByte", "internal/bytealg.Index"], named := ["internal/bytealg.MaxLen"], plainKeys := false, apart := false, narrowed := true }
def TourDoublesUptoSaid : Prop := tourDoublesUptoRow.holds Try.pinned (OpenSpec.upto tourDoublesSpec)

/-- 'wayfinderlaw39.TourChecks', WHERE WHAT IT READS IS OF BULK AT MOST 1048576: true; the input reads as it did. -/
def tourChecksUptoRow : OpenClaim := { program := "ytnkkhmeojifckaa", sum := "17c04486826cd133fd3e8c6db1002762543ddb3703f16fdb20ca80c3d3a362b7", func := "wayfinder/wayfinderlaw39.TourChecks", spec := "tourChecks", inPlace := ["internal/bytealg.Count", "internal/bytealg.IndexByte", "internal/bytealg.Index"], named := ["internal/bytealg.MaxLen"], plainKeys := false, apart := false, narrowed := true }
def TourChecksUptoSaid : Prop := tourChecksUptoRow.holds Try.pinned (OpenSpec.upto tourChecksSpec)

/-- 'wayfinderlaw39.TourLanes', WHERE WHAT IT READS IS OF BULK AT MOST 1048576: true; the input reads as it did. -/
def tourLanesUptoRow : OpenClaim := { program := "ytnkkhmeojifckaa", sum := "17c04486826cd133fd3e8c6db1002762543ddb3703f16fdb20ca80c3d3a362b7", func := "wayfinder/wayfinderlaw39.TourLanes", spec := "tourLanes", inPlace := ["internal/bytealg.Count", "internal/bytealg.IndexByte", "internal/bytealg.Index"], named := ["internal/bytealg.MaxLen"], plainKeys := false, apart := false, narrowed := true }
def TourLanesUptoSaid : Prop := tourLanesUptoRow.holds Try.pinned (OpenSpec.upto tourLanesSpec)

/-- 'wayfinderlaw39.TourDisjoint', WHERE WHAT IT READS IS OF BULK AT MOST 1048576: true; the input reads as it did. -/
def tourDisjointUptoRow : OpenClaim := { program := "ytnkkhmeojifckaa", sum := "17c04486826cd133fd3e8c6db1002762543ddb3703f16fdb20ca80c3d3a362b7", func := "wayfinder/wayfinderlaw39.TourDisjoint", spec := "tourDisjoint", inPlace := ["internal/bytealg.Count", "internal/bytealg.IndexByte", "internal/bytealg.Index"], named := ["internal/bytealg.MaxLen"], plainKeys := false, apart := false, narrowed := true }
def TourDisjointUptoSaid : Prop := tourDisjointUptoRow.holds Try.pinned (OpenSpec.upto tourDisjointSpec)

/-- 'wayfinderlaw39.TourBends', WHERE WHAT IT READS IS OF BULK AT MOST 1048576: true; the input reads as it did. -/
def tourBendsUptoRow : OpenClaim := { program := "ytnkkhmeojifckaa", sum := "17c04486826cd133fd3e8c6db1002762543ddb3703f16fdb20ca80c3d3a362b7", func := "wayfinder/wayfinderlaw39.TourBends", spec := "tourBends", inPlace := ["internal/bytealg.Count", "internal/bytealg.IndexByte", "internal/bytealg.Index"], named := ["internal/bytealg.MaxLen"], plainKeys := false, apart := false, narrowed := true }
def TourBendsUptoSaid : Prop := tourBendsUptoRow.holds Try.pinned (OpenSpec.upto tourBendsSpec)

end Rows
end Go.Proofs.Ytnkkhmeojifckaa
