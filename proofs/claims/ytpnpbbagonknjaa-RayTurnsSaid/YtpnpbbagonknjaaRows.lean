/-
  No cell of these rows narrows 'for every input' (looked for: loops, veiled, ifaces, maps, wideKeys, modest, calm, conditions, laid).
  DERIVED. THE GIVEN ROWS OF THIS SEAT. 10 by the template 'for every input the law returns true; each argument reads behind the call as it read before'; 0 by the template 'total and deterministic' (their statements: YtpnpbbagonknjaaTotals.lean).
  GIVEN WITH THE SEED: the statements are not yours to turn. If you find one false, say at which input.
  Laid BY PROGRAM, IN A SANDBOX (cutbox-rows.mjs): the forced cells as the released guide's own fill.sh prints them over the translation 29e4cc550ecc7f89… (all of the seat's roots in one cut). By AI agents, Wed Nov 11 2026. No macro, syntax, notation, axiom, sorry.
-/
import Derived.Test.YtpnpbbagonknjaaChecked
import GoSem.Claim
import GoSem.ClaimJoined
import GoSem.ClaimMapViews
import Derived.JoinedTies
import Derived.KernelRfl
namespace Go.Proofs.Ytpnpbbagonknjaa
/- THE CELL 'sum', in the pinned program and in every row, IS THE sha256 OF THE DUMP (.gsa) THAT YtpnpbbagonknjaaProg.lean LOADS. Nothing in Lean hashes anything: it is a label: what it is worth is what the hold of that sum in a sandbox is worth. -/
noncomputable def Try.pinned : Pinned := { name := "ytpnpbbagonknjaa", sum := "29e4cc550ecc7f8990bfb0bfb56f9e1092060a08538c1909d2abd6df6de62336", checked := Try.checked }
namespace Rows
def none {H : Type} : Left H := { results := [], args := [] }

/-- 'wayfinderlaw10.RayMatchesReference': WHATEVER THE INPUT: true; the input reads as it did. -/
def rayMatchesReferenceSpec : ChangeSpec := { name := "rayMatchesReference", fn := fun _ => fun
  | [d1, d2, d3] => { results := [.lit (.bool true)], args := [d1, d2, d3] }
  | _ => none }
def rayMatchesReferenceRow : OpenClaim := { program := "ytpnpbbagonknjaa", sum := "29e4cc550ecc7f8990bfb0bfb56f9e1092060a08538c1909d2abd6df6de62336", func := "wayfinder/wayfinderlaw10.RayMatchesReference", spec := "rayMatchesReference", recurses := true, apart := false }
def RayMatchesReferenceSaid : Prop := rayMatchesReferenceRow.holds Try.pinned (OpenSpec.ofChange rayMatchesReferenceSpec)

/-- ITS FALSE NEIGHBOUR: 'it returns false'. Refute it at one input. -/
def rayMatchesReferenceWrong : ChangeSpec := { name := "rayMatchesReference", fn := fun _ => fun
  | [d1, d2, d3] => { results := [.lit (.bool false)], args := [d1, d2, d3] }
  | _ => none }
def RayMatchesReferenceWrongFalsely : Prop := rayMatchesReferenceRow.holds Try.pinned (OpenSpec.ofChange rayMatchesReferenceWrong)

/-- 'wayfinderlaw10.RayVectors': WHATEVER THE INPUT: true; the input reads as it did. -/
def rayVectorsSpec : ChangeSpec := { name := "rayVectors", fn := fun _ => fun
  | [d1, d2, d3] => { results := [.lit (.bool true)], args := [d1, d2, d3] }
  | _ => none }
def rayVectorsRow : OpenClaim := { program := "ytpnpbbagonknjaa", sum := "29e4cc550ecc7f8990bfb0bfb56f9e1092060a08538c1909d2abd6df6de62336", func := "wayfinder/wayfinderlaw10.RayVectors", spec := "rayVectors", recurses := true, apart := false }
def RayVectorsSaid : Prop := rayVectorsRow.holds Try.pinned (OpenSpec.ofChange rayVectorsSpec)

/-- ITS FALSE NEIGHBOUR: 'it returns false'. Refute it at one input. -/
def rayVectorsWrong : ChangeSpec := { name := "rayVectors", fn := fun _ => fun
  | [d1, d2, d3] => { results := [.lit (.bool false)], args := [d1, d2, d3] }
  | _ => none }
def RayVectorsWrongFalsely : Prop := rayVectorsRow.holds Try.pinned (OpenSpec.ofChange rayVectorsWrong)

/-- 'wayfinderlaw10.RayHits': WHATEVER THE INPUT: true; the input reads as it did. -/
def rayHitsSpec : ChangeSpec := { name := "rayHits", fn := fun _ => fun
  | [d1, d2, d3] => { results := [.lit (.bool true)], args := [d1, d2, d3] }
  | _ => none }
def rayHitsRow : OpenClaim := { program := "ytpnpbbagonknjaa", sum := "29e4cc550ecc7f8990bfb0bfb56f9e1092060a08538c1909d2abd6df6de62336", func := "wayfinder/wayfinderlaw10.RayHits", spec := "rayHits", apart := false }
def RayHitsSaid : Prop := rayHitsRow.holds Try.pinned (OpenSpec.ofChange rayHitsSpec)

/-- ITS FALSE NEIGHBOUR: 'it returns false'. Refute it at one input. -/
def rayHitsWrong : ChangeSpec := { name := "rayHits", fn := fun _ => fun
  | [d1, d2, d3] => { results := [.lit (.bool false)], args := [d1, d2, d3] }
  | _ => none }
def RayHitsWrongFalsely : Prop := rayHitsRow.holds Try.pinned (OpenSpec.ofChange rayHitsWrong)

/-- 'wayfinderlaw10.RayPlausible': WHATEVER THE INPUT: true; the input reads as it did. -/
def rayPlausibleSpec : ChangeSpec := { name := "rayPlausible", fn := fun _ => fun
  | [d1, d2, d3] => { results := [.lit (.bool true)], args := [d1, d2, d3] }
  | _ => none }
def rayPlausibleRow : OpenClaim := { program := "ytpnpbbagonknjaa", sum := "29e4cc550ecc7f8990bfb0bfb56f9e1092060a08538c1909d2abd6df6de62336", func := "wayfinder/wayfinderlaw10.RayPlausible", spec := "rayPlausible", recurses := true, apart := false }
def RayPlausibleSaid : Prop := rayPlausibleRow.holds Try.pinned (OpenSpec.ofChange rayPlausibleSpec)

/-- ITS FALSE NEIGHBOUR: 'it returns false'. Refute it at one input. -/
def rayPlausibleWrong : ChangeSpec := { name := "rayPlausible", fn := fun _ => fun
  | [d1, d2, d3] => { results := [.lit (.bool false)], args := [d1, d2, d3] }
  | _ => none }
def RayPlausibleWrongFalsely : Prop := rayPlausibleRow.holds Try.pinned (OpenSpec.ofChange rayPlausibleWrong)

/-- 'wayfinderlaw10.RayMeasures': WHATEVER THE INPUT: true; the input reads as it did. -/
def rayMeasuresSpec : ChangeSpec := { name := "rayMeasures", fn := fun _ => fun
  | [d1, d2, d3] => { results := [.lit (.bool true)], args := [d1, d2, d3] }
  | _ => none }
def rayMeasuresRow : OpenClaim := { program := "ytpnpbbagonknjaa", sum := "29e4cc550ecc7f8990bfb0bfb56f9e1092060a08538c1909d2abd6df6de62336", func := "wayfinder/wayfinderlaw10.RayMeasures", spec := "rayMeasures", recurses := true, apart := false }
def RayMeasuresSaid : Prop := rayMeasuresRow.holds Try.pinned (OpenSpec.ofChange rayMeasuresSpec)

/-- ITS FALSE NEIGHBOUR: 'it returns false'. Refute it at one input. -/
def rayMeasuresWrong : ChangeSpec := { name := "rayMeasures", fn := fun _ => fun
  | [d1, d2, d3] => { results := [.lit (.bool false)], args := [d1, d2, d3] }
  | _ => none }
def RayMeasuresWrongFalsely : Prop := rayMeasuresRow.holds Try.pinned (OpenSpec.ofChange rayMeasuresWrong)

/-- 'wayfinderlaw10.RayBetween': WHATEVER THE INPUT: true; the input reads as it did. -/
def rayBetweenSpec : ChangeSpec := { name := "rayBetween", fn := fun _ => fun
  | [d1, d2, d3] => { results := [.lit (.bool true)], args := [d1, d2, d3] }
  | _ => none }
def rayBetweenRow : OpenClaim := { program := "ytpnpbbagonknjaa", sum := "29e4cc550ecc7f8990bfb0bfb56f9e1092060a08538c1909d2abd6df6de62336", func := "wayfinder/wayfinderlaw10.RayBetween", spec := "rayBetween", apart := false }
def RayBetweenSaid : Prop := rayBetweenRow.holds Try.pinned (OpenSpec.ofChange rayBetweenSpec)

/-- ITS FALSE NEIGHBOUR: 'it returns false'. Refute it at one input. -/
def rayBetweenWrong : ChangeSpec := { name := "rayBetween", fn := fun _ => fun
  | [d1, d2, d3] => { results := [.lit (.bool false)], args := [d1, d2, d3] }
  | _ => none }
def RayBetweenWrongFalsely : Prop := rayBetweenRow.holds Try.pinned (OpenSpec.ofChange rayBetweenWrong)

/-- 'wayfinderlaw10.RaySweeps': WHATEVER THE INPUT: true; the input reads as it did. -/
def raySweepsSpec : ChangeSpec := { name := "raySweeps", fn := fun _ => fun
  | [d1, d2, d3] => { results := [.lit (.bool true)], args := [d1, d2, d3] }
  | _ => none }
def raySweepsRow : OpenClaim := { program := "ytpnpbbagonknjaa", sum := "29e4cc550ecc7f8990bfb0bfb56f9e1092060a08538c1909d2abd6df6de62336", func := "wayfinder/wayfinderlaw10.RaySweeps", spec := "raySweeps", recurses := true, apart := false }
def RaySweepsSaid : Prop := raySweepsRow.holds Try.pinned (OpenSpec.ofChange raySweepsSpec)

/-- ITS FALSE NEIGHBOUR: 'it returns false'. Refute it at one input. -/
def raySweepsWrong : ChangeSpec := { name := "raySweeps", fn := fun _ => fun
  | [d1, d2, d3] => { results := [.lit (.bool false)], args := [d1, d2, d3] }
  | _ => none }
def RaySweepsWrongFalsely : Prop := raySweepsRow.holds Try.pinned (OpenSpec.ofChange raySweepsWrong)

/-- 'wayfinderlaw10.RayAll': WHATEVER THE INPUT: true; the input reads as it did. -/
def rayAllSpec : ChangeSpec := { name := "rayAll", fn := fun _ => fun
  | [d1, d2, d3] => { results := [.lit (.bool true)], args := [d1, d2, d3] }
  | _ => none }
def rayAllRow : OpenClaim := { program := "ytpnpbbagonknjaa", sum := "29e4cc550ecc7f8990bfb0bfb56f9e1092060a08538c1909d2abd6df6de62336", func := "wayfinder/wayfinderlaw10.RayAll", spec := "rayAll", recurses := true, apart := false }
def RayAllSaid : Prop := rayAllRow.holds Try.pinned (OpenSpec.ofChange rayAllSpec)

/-- ITS FALSE NEIGHBOUR: 'it returns false'. Refute it at one input. -/
def rayAllWrong : ChangeSpec := { name := "rayAll", fn := fun _ => fun
  | [d1, d2, d3] => { results := [.lit (.bool false)], args := [d1, d2, d3] }
  | _ => none }
def RayAllWrongFalsely : Prop := rayAllRow.holds Try.pinned (OpenSpec.ofChange rayAllWrong)

/-- 'wayfinderlaw10.RayWalls': WHATEVER THE INPUT: true; the input reads as it did. -/
def rayWallsSpec : ChangeSpec := { name := "rayWalls", fn := fun _ => fun
  | [d1, d2, d3] => { results := [.lit (.bool true)], args := [d1, d2, d3] }
  | _ => none }
def rayWallsRow : OpenClaim := { program := "ytpnpbbagonknjaa", sum := "29e4cc550ecc7f8990bfb0bfb56f9e1092060a08538c1909d2abd6df6de62336", func := "wayfinder/wayfinderlaw10.RayWalls", spec := "rayWalls", apart := false }
def RayWallsSaid : Prop := rayWallsRow.holds Try.pinned (OpenSpec.ofChange rayWallsSpec)

/-- ITS FALSE NEIGHBOUR: 'it returns false'. Refute it at one input. -/
def rayWallsWrong : ChangeSpec := { name := "rayWalls", fn := fun _ => fun
  | [d1, d2, d3] => { results := [.lit (.bool false)], args := [d1, d2, d3] }
  | _ => none }
def RayWallsWrongFalsely : Prop := rayWallsRow.holds Try.pinned (OpenSpec.ofChange rayWallsWrong)

/-- 'wayfinderlaw10.RayTurns': WHATEVER THE INPUT: true; the input reads as it did. -/
def rayTurnsSpec : ChangeSpec := { name := "rayTurns", fn := fun _ => fun
  | [d1, d2, d3] => { results := [.lit (.bool true)], args := [d1, d2, d3] }
  | _ => none }
def rayTurnsRow : OpenClaim := { program := "ytpnpbbagonknjaa", sum := "29e4cc550ecc7f8990bfb0bfb56f9e1092060a08538c1909d2abd6df6de62336", func := "wayfinder/wayfinderlaw10.RayTurns", spec := "rayTurns", apart := false }
def RayTurnsSaid : Prop := rayTurnsRow.holds Try.pinned (OpenSpec.ofChange rayTurnsSpec)

/-- ITS FALSE NEIGHBOUR: 'it returns false'. Refute it at one input. -/
def rayTurnsWrong : ChangeSpec := { name := "rayTurns", fn := fun _ => fun
  | [d1, d2, d3] => { results := [.lit (.bool false)], args := [d1, d2, d3] }
  | _ => none }
def RayTurnsWrongFalsely : Prop := rayTurnsRow.holds Try.pinned (OpenSpec.ofChange rayTurnsWrong)

/- THE SECOND FORM. 'bulk': how many values and letters a reading holds, each counted each time it is reached (what is shared counts as often as it is met; a slice's spare places count too). A statement '..UptoSaid' is the law's where the arguments, and the package variables that the reading takes, are together of bulk at most 1048576: NARROWER than '..Said'. Prove '..Said' where nothing that the law and all that it calls make is longer than what came in: it says more and counts as full. Else prove '..UptoSaid'. A law counts once. -/
mutual
def uptoBulk {H : Type} : DataW H → Nat
  | .lit (.string bytes) => bytes.length + 1
  | .lit _ => 1
  | .nil => 1
  | .ptr d => uptoBulk d + 1
  | .slice elems spare => uptoBulkAll elems + uptoBulkAll spare + 1
  | .agg parts => uptoBulkAll parts + 1
  | .iface _ d => uptoBulk d + 1
  | .map entries => uptoBulkEntries entries + 1
  | .held _ => 1
def uptoBulkAll {H : Type} : List (DataW H) → Nat
  | [] => 0
  | d :: r => uptoBulk d + uptoBulkAll r
def uptoBulkEntries {H : Type} : List (Lit × DataW H) → Nat
  | [] => 0
  | x :: r => uptoBulkEntry x + uptoBulkEntries r
def uptoBulkEntry {H : Type} : Lit × DataW H → Nat
  | (.string bytes, d) => bytes.length + uptoBulk d + 1
  | (_, d) => uptoBulk d + 1
 end
def uptoSmall : (H : Type) → List (DataW H) → Bool := fun _ ds => decide (uptoBulkAll ds ≤ 1048576)
def OpenSpec.upto (s : _root_.Go.ChangeSpec) : _root_.Go.OpenSpec := { _root_.Go.OpenSpec.ofChange s with cond := some uptoSmall }

/-- 'wayfinderlaw10.RayMatchesReference', WHERE WHAT IT READS IS OF BULK AT MOST 1048576: true; the input reads as it did. -/
def rayMatchesReferenceUptoRow : OpenClaim := { program := "ytpnpbbagonknjaa", sum := "29e4cc550ecc7f8990bfb0bfb56f9e1092060a08538c1909d2abd6df6de62336", func := "wayfinder/wayfinderlaw10.RayMatchesReference", spec := "rayMatchesReference", recurses := true, apart := false, narrowed := true }
def RayMatchesReferenceUptoSaid : Prop := rayMatchesReferenceUptoRow.holds Try.pinned (OpenSpec.upto rayMatchesReferenceSpec)

/-- 'wayfinderlaw10.RayVectors', WHERE WHAT IT READS IS OF BULK AT MOST 1048576: true; the input reads as it did. -/
def rayVectorsUptoRow : OpenClaim := { program := "ytpnpbbagonknjaa", sum := "29e4cc550ecc7f8990bfb0bfb56f9e1092060a08538c1909d2abd6df6de62336", func := "wayfinder/wayfinderlaw10.RayVectors", spec := "rayVectors", recurses := true, apart := false, narrowed := true }
def RayVectorsUptoSaid : Prop := rayVectorsUptoRow.holds Try.pinned (OpenSpec.upto rayVectorsSpec)

/-- 'wayfinderlaw10.RayHits', WHERE WHAT IT READS IS OF BULK AT MOST 1048576: true; the input reads as it did. -/
def rayHitsUptoRow : OpenClaim := { program := "ytpnpbbagonknjaa", sum := "29e4cc550ecc7f8990bfb0bfb56f9e1092060a08538c1909d2abd6df6de62336", func := "wayfinder/wayfinderlaw10.RayHits", spec := "rayHits", apart := false, narrowed := true }
def RayHitsUptoSaid : Prop := rayHitsUptoRow.holds Try.pinned (OpenSpec.upto rayHitsSpec)

/-- 'wayfinderlaw10.RayPlausible', WHERE WHAT IT READS IS OF BULK AT MOST 1048576: true; the input reads as it did. -/
def rayPlausibleUptoRow : OpenClaim := { program := "ytpnpbbagonknjaa", sum := "29e4cc550ecc7f8990bfb0bfb56f9e1092060a08538c1909d2abd6df6de62336", func := "wayfinder/wayfinderlaw10.RayPlausible", spec := "rayPlausible", recurses := true, apart := false, narrowed := true }
def RayPlausibleUptoSaid : Prop := rayPlausibleUptoRow.holds Try.pinned (OpenSpec.upto rayPlausibleSpec)

/-- 'wayfinderlaw10.RayMeasures', WHERE WHAT IT READS IS OF BULK AT MOST 1048576: true; the input reads as it did. -/
def rayMeasuresUptoRow : OpenClaim := { program := "ytpnpbbagonknjaa", sum := "29e4cc550ecc7f8990bfb0bfb56f9e1092060a08538c1909d2abd6df6de62336", func := "wayfinder/wayfinderlaw10.RayMeasures", spec := "rayMeasures", recurses := true, apart := false, narrowed := true }
def RayMeasuresUptoSaid : Prop := rayMeasuresUptoRow.holds Try.pinned (OpenSpec.upto rayMeasuresSpec)

/-- 'wayfinderlaw10.RayBetween', WHERE WHAT IT READS IS OF BULK AT MOST 1048576: true; the input reads as it did. -/
def rayBetweenUptoRow : OpenClaim := { program := "ytpnpbbagonknjaa", sum := "29e4cc550ecc7f8990bfb0bfb56f9e1092060a08538c1909d2abd6df6de62336", func := "wayfinder/wayfinderlaw10.RayBetween", spec := "rayBetween", apart := false, narrowed := true }
def RayBetweenUptoSaid : Prop := rayBetweenUptoRow.holds Try.pinned (OpenSpec.upto rayBetweenSpec)

/-- 'wayfinderlaw10.RaySweeps', WHERE WHAT IT READS IS OF BULK AT MOST 1048576: true; the input reads as it did. -/
def raySweepsUptoRow : OpenClaim := { program := "ytpnpbbagonknjaa", sum := "29e4cc550ecc7f8990bfb0bfb56f9e1092060a08538c1909d2abd6df6de62336", func := "wayfinder/wayfinderlaw10.RaySweeps", spec := "raySweeps", recurses := true, apart := false, narrowed := true }
def RaySweepsUptoSaid : Prop := raySweepsUptoRow.holds Try.pinned (OpenSpec.upto raySweepsSpec)

/-- 'wayfinderlaw10.RayAll', WHERE WHAT IT READS IS OF BULK AT MOST 1048576: true; the input reads as it did. -/
def rayAllUptoRow : OpenClaim := { program := "ytpnpbbagonknjaa", sum := "29e4cc550ecc7f8990bfb0bfb56f9e1092060a08538c1909d2abd6df6de62336", func := "wayfinder/wayfinderlaw10.RayAll", spec := "rayAll", recurses := true, apart := false, narrowed := true }
def RayAllUptoSaid : Prop := rayAllUptoRow.holds Try.pinned (OpenSpec.upto rayAllSpec)

/-- 'wayfinderlaw10.RayWalls', WHERE WHAT IT READS IS OF BULK AT MOST 1048576: true; the input reads as it did. -/
def rayWallsUptoRow : OpenClaim := { program := "ytpnpbbagonknjaa", sum := "29e4cc550ecc7f8990bfb0bfb56f9e1092060a08538c1909d2abd6df6de62336", func := "wayfinder/wayfinderlaw10.RayWalls", spec := "rayWalls", apart := false, narrowed := true }
def RayWallsUptoSaid : Prop := rayWallsUptoRow.holds Try.pinned (OpenSpec.upto rayWallsSpec)

/-- 'wayfinderlaw10.RayTurns', WHERE WHAT IT READS IS OF BULK AT MOST 1048576: true; the input reads as it did. -/
def rayTurnsUptoRow : OpenClaim := { program := "ytpnpbbagonknjaa", sum := "29e4cc550ecc7f8990bfb0bfb56f9e1092060a08538c1909d2abd6df6de62336", func := "wayfinder/wayfinderlaw10.RayTurns", spec := "rayTurns", apart := false, narrowed := true }
def RayTurnsUptoSaid : Prop := rayTurnsUptoRow.holds Try.pinned (OpenSpec.upto rayTurnsSpec)

end Rows
end Go.Proofs.Ytpnpbbagonknjaa
