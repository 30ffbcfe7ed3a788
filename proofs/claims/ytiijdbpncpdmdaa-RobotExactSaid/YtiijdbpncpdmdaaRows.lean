/-
  No cell of these rows narrows 'for every input' (looked for: loops, veiled, ifaces, maps, wideKeys, modest, calm, conditions, laid).
  DERIVED. THE GIVEN ROWS OF THIS SEAT. 4 by the template 'for every input the law returns true; each argument reads behind the call as it read before'; 0 by the template 'total and deterministic' (their statements: YtiijdbpncpdmdaaTotals.lean).
  GIVEN WITH THE SEED: the statements are not yours to turn. If you find one false, say at which input.
  Laid BY PROGRAM, IN A SANDBOX (cutbox-rows.mjs): the forced cells as the released guide's own fill.sh prints them over the translation 04108df5eab831fa… (all of the seat's roots in one cut). By AI agents, Wed Nov 11 2026. No macro, syntax, notation, axiom, sorry.
-/
import Derived.Test.YtiijdbpncpdmdaaChecked
import GoSem.Claim
import GoSem.ClaimJoined
import GoSem.ClaimMapViews
import Derived.JoinedTies
import Derived.KernelRfl
namespace Go.Proofs.Ytiijdbpncpdmdaa
/- THE CELL 'sum', in the pinned program and in every row, IS THE sha256 OF THE DUMP (.gsa) THAT YtiijdbpncpdmdaaProg.lean LOADS. Nothing in Lean hashes anything: it is a label: what it is worth is what the hold of that sum in a sandbox is worth. -/
noncomputable def Try.pinned : Pinned := { name := "ytiijdbpncpdmdaa", sum := "04108df5eab831fa8742a1c0f64e347cd0eadda529b2faee89c78f195e3a47bc", checked := Try.checked }
namespace Rows
def none {H : Type} : Left H := { results := [], args := [] }

/-- 'wayfinderlaw12.RobotStands': WHATEVER THE INPUT: true; the input reads as it did. -/
def robotStandsSpec : ChangeSpec := { name := "robotStands", fn := fun _ => fun
  | [d1, d2] => { results := [.lit (.bool true)], args := [d1, d2] }
  | _ => none }
def robotStandsRow : OpenClaim := { program := "ytiijdbpncpdmdaa", sum := "04108df5eab831fa8742a1c0f64e347cd0eadda529b2faee89c78f195e3a47bc", func := "wayfinder/wayfinderlaw12.RobotStands", spec := "robotStands", inPlace := ["internal/bytealg.IndexByte", "internal/bytealg.Count", "internal/bytealg.Index"], unfollowed := true, recurses := true, named := ["internal/bytealg.MaxLen"], apart := false }
def RobotStandsSaid : Prop := robotStandsRow.holds Try.pinned (OpenSpec.ofChange robotStandsSpec)

/-- ITS FALSE NEIGHBOUR: 'it returns false'. Refute it at one input. -/
def robotStandsWrong : ChangeSpec := { name := "robotStands", fn := fun _ => fun
  | [d1, d2] => { results := [.lit (.bool false)], args := [d1, d2] }
  | _ => none }
def RobotStandsWrongFalsely : Prop := robotStandsRow.holds Try.pinned (OpenSpec.ofChange robotStandsWrong)

/-- 'wayfinderlaw12.RobotExact': WHATEVER THE INPUT: true; the input reads as it did. -/
def robotExactSpec : ChangeSpec := { name := "robotExact", fn := fun _ => fun
  | [d1, d2] => { results := [.lit (.bool true)], args := [d1, d2] }
  | _ => none }
def robotExactRow : OpenClaim := { program := "ytiijdbpncpdmdaa", sum := "04108df5eab831fa8742a1c0f64e347cd0eadda529b2faee89c78f195e3a47bc", func := "wayfinder/wayfinderlaw12.RobotExact", spec := "robotExact", inPlace := ["internal/bytealg.IndexByte", "internal/bytealg.Count", "internal/bytealg.Index"], unfollowed := true, recurses := true, named := ["internal/bytealg.MaxLen"], apart := false }
def RobotExactSaid : Prop := robotExactRow.holds Try.pinned (OpenSpec.ofChange robotExactSpec)

/-- ITS FALSE NEIGHBOUR: 'it returns false'. Refute it at one input. -/
def robotExactWrong : ChangeSpec := { name := "robotExact", fn := fun _ => fun
  | [d1, d2] => { results := [.lit (.bool false)], args := [d1, d2] }
  | _ => none }
def RobotExactWrongFalsely : Prop := robotExactRow.holds Try.pinned (OpenSpec.ofChange robotExactWrong)

/-- 'wayfinderlaw12.RobotSenses': WHATEVER THE INPUT: true; the input reads as it did. -/
def robotSensesSpec : ChangeSpec := { name := "robotSenses", fn := fun _ => fun
  | [d1, d2] => { results := [.lit (.bool true)], args := [d1, d2] }
  | _ => none }
def robotSensesRow : OpenClaim := { program := "ytiijdbpncpdmdaa", sum := "04108df5eab831fa8742a1c0f64e347cd0eadda529b2faee89c78f195e3a47bc", func := "wayfinder/wayfinderlaw12.RobotSenses", spec := "robotSenses", inPlace := ["internal/bytealg.IndexByte", "internal/bytealg.Count", "internal/bytealg.Index"], unfollowed := true, recurses := true, named := ["internal/bytealg.MaxLen"], apart := false }
def RobotSensesSaid : Prop := robotSensesRow.holds Try.pinned (OpenSpec.ofChange robotSensesSpec)

/-- ITS FALSE NEIGHBOUR: 'it returns false'. Refute it at one input. -/
def robotSensesWrong : ChangeSpec := { name := "robotSenses", fn := fun _ => fun
  | [d1, d2] => { results := [.lit (.bool false)], args := [d1, d2] }
  | _ => none }
def RobotSensesWrongFalsely : Prop := robotSensesRow.holds Try.pinned (OpenSpec.ofChange robotSensesWrong)

/-- 'wayfinderlaw12.RobotMoves': WHATEVER THE INPUT: true; the input reads as it did. -/
def robotMovesSpec : ChangeSpec := { name := "robotMoves", fn := fun _ => fun
  | [d1, d2] => { results := [.lit (.bool true)], args := [d1, d2] }
  | _ => none }
def robotMovesRow : OpenClaim := { program := "ytiijdbpncpdmdaa", sum := "04108df5eab831fa8742a1c0f64e347cd0eadda529b2faee89c78f195e3a47bc", func := "wayfinder/wayfinderlaw12.RobotMoves", spec := "robotMoves", inPlace := ["internal/bytealg.IndexByte", "internal/bytealg.Count", "internal/bytealg.Index"], unfollowed := true, recurses := true, named := ["internal/bytealg.MaxLen"], apart := false }
def RobotMovesSaid : Prop := robotMovesRow.holds Try.pinned (OpenSpec.ofChange robotMovesSpec)

/-- ITS FALSE NEIGHBOUR: 'it returns false'. Refute it at one input. -/
def robotMovesWrong : ChangeSpec := { name := "robotMoves", fn := fun _ => fun
  | [d1, d2] => { results := [.lit (.bool false)], args := [d1, d2] }
  | _ => none }
def RobotMovesWrongFalsely : Prop := robotMovesRow.holds Try.pinned (OpenSpec.ofChange robotMovesWrong)

/- THE SECOND FORM. 'bulk': how many values and letters a reading holds, each counted each time it is reached (what is shared counts as often as it is met; a slice's spare places count too). A statement '..UptoSaid' is the law's where the arguments, and the package variables that the reading takes, are together of bulk at most 1048576: NARROWER than '..Said'. Prove '..Said' where nothing that the law and all that it calls make is longer than what came in: it says more and counts as full. Else prove '..UptoSaid'. A law counts once. -/
mutual
def uptoBulk {H : Type} : DataW H → Nat
  | .lit (.string bytes) => bytes.length + 1
  | .lit _ => 1
  | .nil => 1
  | .ptr d => uptoBulk d + 1
  | .slice elems spare => uptoBulkAll elems + uptoBulkAll spare + 1
  | .agg parts => uptoBulkAll parts + 1
  | .iface _ d => uptoBulk d + 1
  | .map entries => uptoBulkEntries entries + 1
  | .held _ => 1
def uptoBulkAll {H : Type} : List (DataW H) → Nat
  | [] => 0
  | d :: r => uptoBulk d + uptoBulkAll r
def uptoBulkEntries {H : Type} : List (Lit × DataW H) → Nat
  | [] => 0
  | x :: r => uptoBulkEntry x + uptoBulkEntries r
def uptoBulkEntry {H : Type} : Lit × DataW H → Nat
  | (.string bytes, d) => bytes.length + uptoBulk d + 1
  | (_, d) => uptoBulk d + 1
 end
def uptoSmall : (H : Type) → List (DataW H) → Bool := fun _ ds => decide (uptoBulkAll ds ≤ 1048576)
def OpenSpec.upto (s : _root_.Go.ChangeSpec) : _root_.Go.OpenSpec := { _root_.Go.OpenSpec.ofChange s with cond := some uptoSmall }

/-- 'wayfinderlaw12.RobotStands', WHERE WHAT IT READS IS OF BULK AT MOST 1048576: true; the input reads as it did. -/
def robotStandsUptoRow : OpenClaim := { program := "ytiijdbpncpdmdaa", sum := "04108df5eab831fa8742a1c0f64e347cd0eadda529b2faee89c78f195e3a47bc", func := "wayfinder/wayfinderlaw12.RobotStands", spec := "robotStands", inPlace := ["internal/bytealg.IndexByte", "internal/bytealg.Count", "internal/bytealg.Index"], unfollowed := true, recurses := true, named := ["internal/bytealg.MaxLen"], apart := false, narrowed := true }
def RobotStandsUptoSaid : Prop := robotStandsUptoRow.holds Try.pinned (OpenSpec.upto robotStandsSpec)

/-- 'wayfinderlaw12.RobotExact', WHERE WHAT IT READS IS OF BULK AT MOST 1048576: true; the input reads as it did. -/
def robotExactUptoRow : OpenClaim := { program := "ytiijdbpncpdmdaa", sum := "04108df5eab831fa8742a1c0f64e347cd0eadda529b2faee89c78f195e3a47bc", func := "wayfinder/wayfinderlaw12.RobotExact", spec := "robotExact", inPlace := ["internal/bytealg.IndexByte", "internal/bytealg.Count", "internal/bytealg.Index"], unfollowed := true, recurses := true, named := ["internal/bytealg.MaxLen"], apart := false, narrowed := true }
def RobotExactUptoSaid : Prop := robotExactUptoRow.holds Try.pinned (OpenSpec.upto robotExactSpec)

/-- 'wayfinderlaw12.RobotSenses', WHERE WHAT IT READS IS OF BULK AT MOST 1048576: true; the input reads as it did. -/
def robotSensesUptoRow : OpenClaim := { program := "ytiijdbpncpdmdaa", sum := "04108df5eab831fa8742a1c0f64e347cd0eadda529b2faee89c78f195e3a47bc", func := "wayfinder/wayfinderlaw12.RobotSenses", spec := "robotSenses", inPlace := ["internal/bytealg.IndexByte", "internal/bytealg.Count", "internal/bytealg.Index"], unfollowed := true, recurses := true, named := ["internal/bytealg.MaxLen"], apart := false, narrowed := true }
def RobotSensesUptoSaid : Prop := robotSensesUptoRow.holds Try.pinned (OpenSpec.upto robotSensesSpec)

/-- 'wayfinderlaw12.RobotMoves', WHERE WHAT IT READS IS OF BULK AT MOST 1048576: true; the input reads as it did. -/
def robotMovesUptoRow : OpenClaim := { program := "ytiijdbpncpdmdaa", sum := "04108df5eab831fa8742a1c0f64e347cd0eadda529b2faee89c78f195e3a47bc", func := "wayfinder/wayfinderlaw12.RobotMoves", spec := "robotMoves", inPlace := ["internal/bytealg.IndexByte", "internal/bytealg.Count", "internal/bytealg.Index"], unfollowed := true, recurses := true, named := ["internal/bytealg.MaxLen"], apart := false, narrowed := true }
def RobotMovesUptoSaid : Prop := robotMovesUptoRow.holds Try.pinned (OpenSpec.upto robotMovesSpec)

end Rows
end Go.Proofs.Ytiijdbpncpdmdaa
