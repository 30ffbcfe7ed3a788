/-
  No cell of these rows narrows 'for every input' (looked for: loops, veiled, ifaces, maps, wideKeys, modest, calm, conditions, laid).
  DERIVED. THE GIVEN ROWS OF THIS SEAT. 10 by the template 'for every input the law returns true; each argument reads behind the call as it read before'; 0 by the template 'total and deterministic' (their statements: YtbjgaejmkhjbaaaTotals.lean).
  GIVEN WITH THE SEED: the statements are not yours to turn. If you find one false, say at which input.
  Laid BY PROGRAM, IN A SANDBOX (cutbox-rows.mjs): the forced cells as the released guide's own fill.sh prints them over the translation b0ff52db6eda28ad… (all of the seat's roots in one cut). By AI agents, Wed Nov 11 2026. No macro, syntax, notation, axiom, sorry.
-/
import Derived.Test.YtbjgaejmkhjbaaaChecked
import GoSem.Claim
import GoSem.ClaimJoined
import GoSem.ClaimMapViews
import Derived.JoinedTies
import Derived.KernelRfl
namespace Go.Proofs.Ytbjgaejmkhjbaaa
/- THE CELL 'sum', in the pinned program and in every row, IS THE sha256 OF THE DUMP (.gsa) THAT YtbjgaejmkhjbaaaProg.lean LOADS. Nothing in Lean hashes anything: it is a label: what it is worth is what the hold of that sum in a sandbox is worth. -/
noncomputable def Try.pinned : Pinned := { name := "ytbjgaejmkhjbaaa", sum := "b0ff52db6eda28ad88176141257fce786a2b51d2fc134aeda9a6d40c33306626", checked := Try.checked }
namespace Rows
def none {H : Type} : Left H := { results := [], args := [] }

/-- 'wayfinderlaw08.PlanTraces': WHATEVER THE INPUT: true; the input reads as it did. -/
def planTracesSpec : ChangeSpec := { name := "planTraces", fn := fun _ => fun
  | [d] => { results := [.lit (.bool true)], args := [d] }
  | _ => none }
def planTracesRow : OpenClaim := { program := "ytbjgaejmkhjbaaa", sum := "b0ff52db6eda28ad88176141257fce786a2b51d2fc134aeda9a6d40c33306626", func := "wayfinder/wayfinderlaw08.PlanTraces", spec := "planTraces", inPlace := ["internal/bytealg.MakeNoZero", "internal/abi.NoEscape"], recurses := true, apart := false }
def PlanTracesSaid : Prop := planTracesRow.holds Try.pinned (OpenSpec.ofChange planTracesSpec)

/-- ITS FALSE NEIGHBOUR: 'it returns false'. Refute it at one input. -/
def planTracesWrong : ChangeSpec := { name := "planTraces", fn := fun _ => fun
  | [d] => { results := [.lit (.bool false)], args := [d] }
  | _ => none }
def PlanTracesWrongFalsely : Prop := planTracesRow.holds Try.pinned (OpenSpec.ofChange planTracesWrong)

/-- 'wayfinderlaw08.PlanSweeps': WHATEVER THE INPUT: true; the input reads as it did. -/
def planSweepsSpec : ChangeSpec := { name := "planSweeps", fn := fun _ => fun
  | [d1, d2] => { results := [.lit (.bool true)], args := [d1, d2] }
  | _ => none }
def planSweepsRow : OpenClaim := { program := "ytbjgaejmkhjbaaa", sum := "b0ff52db6eda28ad88176141257fce786a2b51d2fc134aeda9a6d40c33306626", func := "wayfinder/wayfinderlaw08.PlanSweeps", spec := "planSweeps", inPlace := ["internal/bytealg.MakeNoZero", "internal/abi.NoEscape"], recurses := true, apart := false }
def PlanSweepsSaid : Prop := planSweepsRow.holds Try.pinned (OpenSpec.ofChange planSweepsSpec)

/-- ITS FALSE NEIGHBOUR: 'it returns false'. Refute it at one input. -/
def planSweepsWrong : ChangeSpec := { name := "planSweeps", fn := fun _ => fun
  | [d1, d2] => { results := [.lit (.bool false)], args := [d1, d2] }
  | _ => none }
def PlanSweepsWrongFalsely : Prop := planSweepsRow.holds Try.pinned (OpenSpec.ofChange planSweepsWrong)

/-- 'wayfinderlaw08.PlanContains': WHATEVER THE INPUT: true; the input reads as it did. -/
def planContainsSpec : ChangeSpec := { name := "planContains", fn := fun _ => fun
  | [d1, d2, d3] => { results := [.lit (.bool true)], args := [d1, d2, d3] }
  | _ => none }
def planContainsRow : OpenClaim := { program := "ytbjgaejmkhjbaaa", sum := "b0ff52db6eda28ad88176141257fce786a2b51d2fc134aeda9a6d40c33306626", func := "wayfinder/wayfinderlaw08.PlanContains", spec := "planContains", inPlace := ["internal/bytealg.MakeNoZero", "internal/abi.NoEscape"], apart := false }
def PlanContainsSaid : Prop := planContainsRow.holds Try.pinned (OpenSpec.ofChange planContainsSpec)

/-- ITS FALSE NEIGHBOUR: 'it returns false'. Refute it at one input. -/
def planContainsWrong : ChangeSpec := { name := "planContains", fn := fun _ => fun
  | [d1, d2, d3] => { results := [.lit (.bool false)], args := [d1, d2, d3] }
  | _ => none }
def PlanContainsWrongFalsely : Prop := planContainsRow.holds Try.pinned (OpenSpec.ofChange planContainsWrong)

/-- 'wayfinderlaw08.PlanCells': WHATEVER THE INPUT: true; the input reads as it did. -/
def planCellsSpec : ChangeSpec := { name := "planCells", fn := fun _ => fun
  | [d] => { results := [.lit (.bool true)], args := [d] }
  | _ => none }
def planCellsRow : OpenClaim := { program := "ytbjgaejmkhjbaaa", sum := "b0ff52db6eda28ad88176141257fce786a2b51d2fc134aeda9a6d40c33306626", func := "wayfinder/wayfinderlaw08.PlanCells", spec := "planCells", inPlace := ["internal/bytealg.MakeNoZero", "internal/abi.NoEscape"], apart := false }
def PlanCellsSaid : Prop := planCellsRow.holds Try.pinned (OpenSpec.ofChange planCellsSpec)

/-- ITS FALSE NEIGHBOUR: 'it returns false'. Refute it at one input. -/
def planCellsWrong : ChangeSpec := { name := "planCells", fn := fun _ => fun
  | [d] => { results := [.lit (.bool false)], args := [d] }
  | _ => none }
def PlanCellsWrongFalsely : Prop := planCellsRow.holds Try.pinned (OpenSpec.ofChange planCellsWrong)

/-- 'wayfinderlaw08.PlanPuts': WHATEVER THE INPUT: true; the input reads as it did. -/
def planPutsSpec : ChangeSpec := { name := "planPuts", fn := fun _ => fun
  | [d1, d2, d3] => { results := [.lit (.bool true)], args := [d1, d2, d3] }
  | _ => none }
def planPutsRow : OpenClaim := { program := "ytbjgaejmkhjbaaa", sum := "b0ff52db6eda28ad88176141257fce786a2b51d2fc134aeda9a6d40c33306626", func := "wayfinder/wayfinderlaw08.PlanPuts", spec := "planPuts", inPlace := ["internal/bytealg.MakeNoZero", "internal/abi.NoEscape"], apart := false }
def PlanPutsSaid : Prop := planPutsRow.holds Try.pinned (OpenSpec.ofChange planPutsSpec)

/-- ITS FALSE NEIGHBOUR: 'it returns false'. Refute it at one input. -/
def planPutsWrong : ChangeSpec := { name := "planPuts", fn := fun _ => fun
  | [d1, d2, d3] => { results := [.lit (.bool false)], args := [d1, d2, d3] }
  | _ => none }
def PlanPutsWrongFalsely : Prop := planPutsRow.holds Try.pinned (OpenSpec.ofChange planPutsWrong)

/-- 'wayfinderlaw08.PlanMerges': WHATEVER THE INPUT: true; the input reads as it did. -/
def planMergesSpec : ChangeSpec := { name := "planMerges", fn := fun _ => fun
  | [d1, d2] => { results := [.lit (.bool true)], args := [d1, d2] }
  | _ => none }
def planMergesRow : OpenClaim := { program := "ytbjgaejmkhjbaaa", sum := "b0ff52db6eda28ad88176141257fce786a2b51d2fc134aeda9a6d40c33306626", func := "wayfinder/wayfinderlaw08.PlanMerges", spec := "planMerges", inPlace := ["internal/bytealg.MakeNoZero", "internal/abi.NoEscape"], apart := false }
def PlanMergesSaid : Prop := planMergesRow.holds Try.pinned (OpenSpec.ofChange planMergesSpec)

/-- ITS FALSE NEIGHBOUR: 'it returns false'. Refute it at one input. -/
def planMergesWrong : ChangeSpec := { name := "planMerges", fn := fun _ => fun
  | [d1, d2] => { results := [.lit (.bool false)], args := [d1, d2] }
  | _ => none }
def PlanMergesWrongFalsely : Prop := planMergesRow.holds Try.pinned (OpenSpec.ofChange planMergesWrong)

/-- 'wayfinderlaw08.PlanLeast': WHATEVER THE INPUT: true; the input reads as it did. -/
def planLeastSpec : ChangeSpec := { name := "planLeast", fn := fun _ => fun
  | [d1, d2, d3] => { results := [.lit (.bool true)], args := [d1, d2, d3] }
  | _ => none }
def planLeastRow : OpenClaim := { program := "ytbjgaejmkhjbaaa", sum := "b0ff52db6eda28ad88176141257fce786a2b51d2fc134aeda9a6d40c33306626", func := "wayfinder/wayfinderlaw08.PlanLeast", spec := "planLeast", inPlace := ["internal/bytealg.MakeNoZero", "internal/abi.NoEscape"], apart := false }
def PlanLeastSaid : Prop := planLeastRow.holds Try.pinned (OpenSpec.ofChange planLeastSpec)

/-- ITS FALSE NEIGHBOUR: 'it returns false'. Refute it at one input. -/
def planLeastWrong : ChangeSpec := { name := "planLeast", fn := fun _ => fun
  | [d1, d2, d3] => { results := [.lit (.bool false)], args := [d1, d2, d3] }
  | _ => none }
def PlanLeastWrongFalsely : Prop := planLeastRow.holds Try.pinned (OpenSpec.ofChange planLeastWrong)

/-- 'wayfinderlaw08.PlanSquares': WHATEVER THE INPUT: true; the input reads as it did. -/
def planSquaresSpec : ChangeSpec := { name := "planSquares", fn := fun _ => fun
  | [d1, d2] => { results := [.lit (.bool true)], args := [d1, d2] }
  | _ => none }
def planSquaresRow : OpenClaim := { program := "ytbjgaejmkhjbaaa", sum := "b0ff52db6eda28ad88176141257fce786a2b51d2fc134aeda9a6d40c33306626", func := "wayfinder/wayfinderlaw08.PlanSquares", spec := "planSquares", inPlace := ["internal/bytealg.MakeNoZero", "internal/abi.NoEscape"], apart := false }
def PlanSquaresSaid : Prop := planSquaresRow.holds Try.pinned (OpenSpec.ofChange planSquaresSpec)

/-- ITS FALSE NEIGHBOUR: 'it returns false'. Refute it at one input. -/
def planSquaresWrong : ChangeSpec := { name := "planSquares", fn := fun _ => fun
  | [d1, d2] => { results := [.lit (.bool false)], args := [d1, d2] }
  | _ => none }
def PlanSquaresWrongFalsely : Prop := planSquaresRow.holds Try.pinned (OpenSpec.ofChange planSquaresWrong)

/-- 'wayfinderlaw08.PlanParses': WHATEVER THE INPUT: true; the input reads as it did. -/
def planParsesSpec : ChangeSpec := { name := "planParses", fn := fun _ => fun
  | [d] => { results := [.lit (.bool true)], args := [d] }
  | _ => none }
def planParsesRow : OpenClaim := { program := "ytbjgaejmkhjbaaa", sum := "b0ff52db6eda28ad88176141257fce786a2b51d2fc134aeda9a6d40c33306626", func := "wayfinder/wayfinderlaw08.PlanParses", spec := "planParses", inPlace := ["internal/bytealg.MakeNoZero", "internal/abi.NoEscape", "internal/bytealg.IndexByteString", "internal/bytealg.IndexString"], named := ["internal/bytealg.MaxLen"], apart := false }
def PlanParsesSaid : Prop := planParsesRow.holds Try.pinned (OpenSpec.ofChange planParsesSpec)

/-- ITS FALSE NEIGHBOUR: 'it returns false'. Refute it at one input. -/
def planParsesWrong : ChangeSpec := { name := "planParses", fn := fun _ => fun
  | [d] => { results := [.lit (.bool false)], args := [d] }
  | _ => none }
def PlanParsesWrongFalsely : Prop := planParsesRow.holds Try.pinned (OpenSpec.ofChange planParsesWrong)

/-- 'wayfinderlaw08.PlanNews': WHATEVER THE INPUT: true; the input reads as it did. -/
def planNewsSpec : ChangeSpec := { name := "planNews", fn := fun _ => fun
  | [d1, d2, d3] => { results := [.lit (.bool true)], args := [d1, d2, d3] }
  | _ => none }
def planNewsRow : OpenClaim := { program := "ytbjgaejmkhjbaaa", sum := "b0ff52db6eda28ad88176141257fce786a2b51d2fc134aeda9a6d40c33306626", func := "wayfinder/wayfinderlaw08.PlanNews", spec := "planNews", inPlace := ["internal/bytealg.MakeNoZero", "internal/abi.NoEscape", "internal/bytealg.IndexByteString", "internal/bytealg.IndexString", "internal/bytealg.Count", "internal/bytealg.IndexByte", "internal/bytealg.Index"], named := ["internal/bytealg.MaxLen"], apart := false }
def PlanNewsSaid : Prop := planNewsRow.holds Try.pinned (OpenSpec.ofChange planNewsSpec)

/-- ITS FALSE NEIGHBOUR: 'it returns false'. Refute it at one input. -/
def planNewsWrong : ChangeSpec := { name := "planNews", fn := fun _ => fun
  | [d1, d2, d3] => { results := [.lit (.bool false)], args := [d1, d2, d3] }
  | _ => none }
def PlanNewsWrongFalsely : Prop := planNewsRow.holds Try.pinned (OpenSpec.ofChange planNewsWrong)

/- THE SECOND FORM. 'bulk': how many values and letters a reading holds, each counted each time it is reached (what is shared counts as often as it is met; a slice's spare places count too). A statement '..UptoSaid' is the law's where the arguments, and the package variables that the reading takes, are together of bulk at most 1048576: NARROWER than '..Said'. Prove '..Said' where nothing that the law and all that it calls make is longer than what came in: it says more and counts as full. Else prove '..UptoSaid'. A law counts once. -/
mutual
def uptoBulk {H : Type} : DataW H → Nat
  | .lit (.string bytes) => bytes.length + 1
  | .lit _ => 1
  | .nil => 1
  | .ptr d => uptoBulk d + 1
  | .slice elems spare => uptoBulkAll elems + uptoBulkAll spare + 1
  | .agg parts => uptoBulkAll parts + 1
  | .iface _ d => uptoBulk d + 1
  | .map entries => uptoBulkEntries entries + 1
  | .held _ => 1
def uptoBulkAll {H : Type} : List (DataW H) → Nat
  | [] => 0
  | d :: r => uptoBulk d + uptoBulkAll r
def uptoBulkEntries {H : Type} : List (Lit × DataW H) → Nat
  | [] => 0
  | x :: r => uptoBulkEntry x + uptoBulkEntries r
def uptoBulkEntry {H : Type} : Lit × DataW H → Nat
  | (.string bytes, d) => bytes.length + uptoBulk d + 1
  | (_, d) => uptoBulk d + 1
 end
def uptoSmall : (H : Type) → List (DataW H) → Bool := fun _ ds => decide (uptoBulkAll ds ≤ 1048576)
def OpenSpec.upto (s : _root_.Go.ChangeSpec) : _root_.Go.OpenSpec := { _root_.Go.OpenSpec.ofChange s with cond := some uptoSmall }

/-- 'wayfinderlaw08.PlanTraces', WHERE WHAT IT READS IS OF BULK AT MOST 1048576: true; the input reads as it did. -/
def planTracesUptoRow : OpenClaim := { program := "ytbjgaejmkhjbaaa", sum := "b0ff52db6eda28ad88176141257fce786a2b51d2fc134aeda9a6d40c33306626", func := "wayfinder/wayfinderlaw08.PlanTraces", spec := "planTraces", inPlace := ["internal/bytealg.MakeNoZero", "internal/abi.NoEscape"], recurses := true, apart := false, narrowed := true }
def PlanTracesUptoSaid : Prop := planTracesUptoRow.holds Try.pinned (OpenSpec.upto planTracesSpec)

/-- 'wayfinderlaw08.PlanSweeps', WHERE WHAT IT READS IS OF BULK AT MOST 1048576: true; the input reads as it did. -/
def planSweepsUptoRow : OpenClaim := { program := "ytbjgaejmkhjbaaa", sum := "b0ff52db6eda28ad88176141257fce786a2b51d2fc134aeda9a6d40c33306626", func := "wayfinder/wayfinderlaw08.PlanSweeps", spec := "planSweeps", inPlace := ["internal/bytealg.MakeNoZero", "internal/abi.NoEscape"], recurses := true, apart := false, narrowed := true }
def PlanSweepsUptoSaid : Prop := planSweepsUptoRow.holds Try.pinned (OpenSpec.upto planSweepsSpec)

/-- 'wayfinderlaw08.PlanContains', WHERE WHAT IT READS IS OF BULK AT MOST 1048576: true; the input reads as it did. -/
def planContainsUptoRow : OpenClaim := { program := "ytbjgaejmkhjbaaa", sum := "b0ff52db6eda28ad88176141257fce786a2b51d2fc134aeda9a6d40c33306626", func := "wayfinder/wayfinderlaw08.PlanContains", spec := "planContains", inPlace := ["internal/bytealg.MakeNoZero", "internal/abi.NoEscape"], apart := false, narrowed := true }
def PlanContainsUptoSaid : Prop := planContainsUptoRow.holds Try.pinned (OpenSpec.upto planContainsSpec)

/-- 'wayfinderlaw08.PlanCells', WHERE WHAT IT READS IS OF BULK AT MOST 1048576: true; the input reads as it did. -/
def planCellsUptoRow : OpenClaim := { program := "ytbjgaejmkhjbaaa", sum := "b0ff52db6eda28ad88176141257fce786a2b51d2fc134aeda9a6d40c33306626", func := "wayfinder/wayfinderlaw08.PlanCells", spec := "planCells", inPlace := ["internal/bytealg.MakeNoZero", "internal/abi.NoEscape"], apart := false, narrowed := true }
def PlanCellsUptoSaid : Prop := planCellsUptoRow.holds Try.pinned (OpenSpec.upto planCellsSpec)

/-- 'wayfinderlaw08.PlanPuts', WHERE WHAT IT READS IS OF BULK AT MOST 1048576: true; the input reads as it did. -/
def planPutsUptoRow : OpenClaim := { program := "ytbjgaejmkhjbaaa", sum := "b0ff52db6eda28ad88176141257fce786a2b51d2fc134aeda9a6d40c33306626", func := "wayfinder/wayfinderlaw08.PlanPuts", spec := "planPuts", inPlace := ["internal/bytealg.MakeNoZero", "internal/abi.NoEscape"], apart := false, narrowed := true }
def PlanPutsUptoSaid : Prop := planPutsUptoRow.holds Try.pinned (OpenSpec.upto planPutsSpec)

/-- 'wayfinderlaw08.PlanMerges', WHERE WHAT IT READS IS OF BULK AT MOST 1048576: true; the input reads as it did. -/
def planMergesUptoRow : OpenClaim := { program := "ytbjgaejmkhjbaaa", sum := "b0ff52db6eda28ad88176141257fce786a2b51d2fc134aeda9a6d40c33306626", func := "wayfinder/wayfinderlaw08.PlanMerges", spec := "planMerges", inPlace := ["internal/bytealg.MakeNoZero", "internal/abi.NoEscape"], apart := false, narrowed := true }
def PlanMergesUptoSaid : Prop := planMergesUptoRow.holds Try.pinned (OpenSpec.upto planMergesSpec)

/-- 'wayfinderlaw08.PlanLeast', WHERE WHAT IT READS IS OF BULK AT MOST 1048576: true; the input reads as it did. -/
def planLeastUptoRow : OpenClaim := { program := "ytbjgaejmkhjbaaa", sum := "b0ff52db6eda28ad88176141257fce786a2b51d2fc134aeda9a6d40c33306626", func := "wayfinder/wayfinderlaw08.PlanLeast", spec := "planLeast", inPlace := ["internal/bytealg.MakeNoZero", "internal/abi.NoEscape"], apart := false, narrowed := true }
def PlanLeastUptoSaid : Prop := planLeastUptoRow.holds Try.pinned (OpenSpec.upto planLeastSpec)

/-- 'wayfinderlaw08.PlanSquares', WHERE WHAT IT READS IS OF BULK AT MOST 1048576: true; the input reads as it did. -/
def planSquaresUptoRow : OpenClaim := { program := "ytbjgaejmkhjbaaa", sum := "b0ff52db6eda28ad88176141257fce786a2b51d2fc134aeda9a6d40c33306626", func := "wayfinder/wayfinderlaw08.PlanSquares", spec := "planSquares", inPlace := ["internal/bytealg.MakeNoZero", "internal/abi.NoEscape"], apart := false, narrowed := true }
def PlanSquaresUptoSaid : Prop := planSquaresUptoRow.holds Try.pinned (OpenSpec.upto planSquaresSpec)

/-- 'wayfinderlaw08.PlanParses', WHERE WHAT IT READS IS OF BULK AT MOST 1048576: true; the input reads as it did. -/
def planParsesUptoRow : OpenClaim := { program := "ytbjgaejmkhjbaaa", sum := "b0ff52db6eda28ad88176141257fce786a2b51d2fc134aeda9a6d40c33306626", func := "wayfinder/wayfinderlaw08.PlanParses", spec := "planParses", inPlace := ["internal/bytealg.MakeNoZero", "internal/abi.NoEscape", "internal/bytealg.IndexByteString", "internal/bytealg.IndexString"], named := ["internal/bytealg.MaxLen"], apart := false, narrowed := true }
def PlanParsesUptoSaid : Prop := planParsesUptoRow.holds Try.pinned (OpenSpec.upto planParsesSpec)

/-- 'wayfinderlaw08.PlanNews', WHERE WHAT IT READS IS OF BULK AT MOST 1048576: true; the input reads as it did. -/
def planNewsUptoRow : OpenClaim := { program := "ytbjgaejmkhjbaaa", sum := "b0ff52db6eda28ad88176141257fce786a2b51d2fc134aeda9a6d40c33306626", func := "wayfinder/wayfinderlaw08.PlanNews", spec := "planNews", inPlace := ["internal/bytealg.MakeNoZero", "internal/abi.NoEscape", "internal/bytealg.IndexByteString", "internal/bytealg.IndexString", "internal/bytealg.Count", "internal/bytealg.IndexByte", "internal/bytealg.Index"], named := ["internal/bytealg.MaxLen"], apart := false, narrowed := true }
def PlanNewsUptoSaid : Prop := planNewsUptoRow.holds Try.pinned (OpenSpec.upto planNewsSpec)

end Rows
end Go.Proofs.Ytbjgaejmkhjbaaa
