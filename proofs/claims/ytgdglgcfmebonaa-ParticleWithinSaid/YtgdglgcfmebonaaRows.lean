/-
  No cell of these rows narrows 'for every input' (looked for: loops, veiled, ifaces, maps, wideKeys, modest, calm, conditions, laid).
  DERIVED. THE GIVEN ROWS OF THIS SEAT. 9 by the template 'for every input the law returns true; each argument reads behind the call as it read before'; 0 by the template 'total and deterministic' (their statements: YtgdglgcfmebonaaTotals.lean).
  GIVEN WITH THE SEED: the statements are not yours to turn. If you find one false, say at which input.
  Laid BY PROGRAM, IN A SANDBOX (cutbox-rows.mjs): the forced cells as the released guide's own fill.sh prints them over the translation a3e85d4de4a81c69… (all of the seat's roots in one cut). By AI agents, Wed Nov 11 2026. No macro, syntax, notation, axiom, sorry.
-/
import Derived.Test.YtgdglgcfmebonaaChecked
import GoSem.Claim
import GoSem.ClaimJoined
import GoSem.ClaimMapViews
import Derived.JoinedTies
import Derived.KernelRfl
namespace Go.Proofs.Ytgdglgcfmebonaa
/- THE CELL 'sum', in the pinned program and in every row, IS THE sha256 OF THE DUMP (.gsa) THAT YtgdglgcfmebonaaProg.lean LOADS. Nothing in Lean hashes anything: it is a label: what it is worth is what the hold of that sum in a sandbox is worth. -/
noncomputable def Try.pinned : Pinned := { name := "ytgdglgcfmebonaa", sum := "a3e85d4de4a81c69f3b77acc3e989d6667d65a1b8edf6a318d993861d80e48a6", checked := Try.checked }
namespace Rows
def none {H : Type} : Left H := { results := [], args := [] }

/-- 'wayfinderlaw21.ParticleShares': WHATEVER THE INPUT: true; the input reads as it did. -/
def particleSharesSpec : ChangeSpec := { name := "particleShares", fn := fun _ => fun
  | [d1, d2, d3] => { results := [.lit (.bool true)], args := [d1, d2, d3] }
  | _ => none }
def particleSharesRow : OpenClaim := { program := "ytgdglgcfmebonaa", sum := "a3e85d4de4a81c69f3b77acc3e989d6667d65a1b8edf6a318d993861d80e48a6", func := "wayfinder/wayfinderlaw21.ParticleShares", spec := "particleShares", unfollowed := true, recurses := true, apart := false }
def ParticleSharesSaid : Prop := particleSharesRow.holds Try.pinned (OpenSpec.ofChange particleSharesSpec)

/-- ITS FALSE NEIGHBOUR: 'it returns false'. Refute it at one input. -/
def particleSharesWrong : ChangeSpec := { name := "particleShares", fn := fun _ => fun
  | [d1, d2, d3] => { results := [.lit (.bool false)], args := [d1, d2, d3] }
  | _ => none }
def ParticleSharesWrongFalsely : Prop := particleSharesRow.holds Try.pinned (OpenSpec.ofChange particleSharesWrong)

/-- 'wayfinderlaw21.ParticleEffective': WHATEVER THE INPUT: true; the input reads as it did. -/
def particleEffectiveSpec : ChangeSpec := { name := "particleEffective", fn := fun _ => fun
  | [d] => { results := [.lit (.bool true)], args := [d] }
  | _ => none }
def particleEffectiveRow : OpenClaim := { program := "ytgdglgcfmebonaa", sum := "a3e85d4de4a81c69f3b77acc3e989d6667d65a1b8edf6a318d993861d80e48a6", func := "wayfinder/wayfinderlaw21.ParticleEffective", spec := "particleEffective", unfollowed := true, recurses := true, apart := false }
def ParticleEffectiveSaid : Prop := particleEffectiveRow.holds Try.pinned (OpenSpec.ofChange particleEffectiveSpec)

/-- ITS FALSE NEIGHBOUR: 'it returns false'. Refute it at one input. -/
def particleEffectiveWrong : ChangeSpec := { name := "particleEffective", fn := fun _ => fun
  | [d] => { results := [.lit (.bool false)], args := [d] }
  | _ => none }
def ParticleEffectiveWrongFalsely : Prop := particleEffectiveRow.holds Try.pinned (OpenSpec.ofChange particleEffectiveWrong)

/-- 'wayfinderlaw21.ParticleResamples': WHATEVER THE INPUT: true; the input reads as it did. -/
def particleResamplesSpec : ChangeSpec := { name := "particleResamples", fn := fun _ => fun
  | [d1, d2, d3] => { results := [.lit (.bool true)], args := [d1, d2, d3] }
  | _ => none }
def particleResamplesRow : OpenClaim := { program := "ytgdglgcfmebonaa", sum := "a3e85d4de4a81c69f3b77acc3e989d6667d65a1b8edf6a318d993861d80e48a6", func := "wayfinder/wayfinderlaw21.ParticleResamples", spec := "particleResamples", unfollowed := true, recurses := true, apart := false }
def ParticleResamplesSaid : Prop := particleResamplesRow.holds Try.pinned (OpenSpec.ofChange particleResamplesSpec)

/-- ITS FALSE NEIGHBOUR: 'it returns false'. Refute it at one input. -/
def particleResamplesWrong : ChangeSpec := { name := "particleResamples", fn := fun _ => fun
  | [d1, d2, d3] => { results := [.lit (.bool false)], args := [d1, d2, d3] }
  | _ => none }
def ParticleResamplesWrongFalsely : Prop := particleResamplesRow.holds Try.pinned (OpenSpec.ofChange particleResamplesWrong)

/-- 'wayfinderlaw21.ParticleMeans': WHATEVER THE INPUT: true; the input reads as it did. -/
def particleMeansSpec : ChangeSpec := { name := "particleMeans", fn := fun _ => fun
  | [d] => { results := [.lit (.bool true)], args := [d] }
  | _ => none }
def particleMeansRow : OpenClaim := { program := "ytgdglgcfmebonaa", sum := "a3e85d4de4a81c69f3b77acc3e989d6667d65a1b8edf6a318d993861d80e48a6", func := "wayfinder/wayfinderlaw21.ParticleMeans", spec := "particleMeans", unfollowed := true, recurses := true, apart := false }
def ParticleMeansSaid : Prop := particleMeansRow.holds Try.pinned (OpenSpec.ofChange particleMeansSpec)

/-- ITS FALSE NEIGHBOUR: 'it returns false'. Refute it at one input. -/
def particleMeansWrong : ChangeSpec := { name := "particleMeans", fn := fun _ => fun
  | [d] => { results := [.lit (.bool false)], args := [d] }
  | _ => none }
def ParticleMeansWrongFalsely : Prop := particleMeansRow.holds Try.pinned (OpenSpec.ofChange particleMeansWrong)

/-- 'wayfinderlaw21.ParticleDraws': WHATEVER THE INPUT: true; the input reads as it did. -/
def particleDrawsSpec : ChangeSpec := { name := "particleDraws", fn := fun _ => fun
  | [d1, d2, d3] => { results := [.lit (.bool true)], args := [d1, d2, d3] }
  | _ => none }
def particleDrawsRow : OpenClaim := { program := "ytgdglgcfmebonaa", sum := "a3e85d4de4a81c69f3b77acc3e989d6667d65a1b8edf6a318d993861d80e48a6", func := "wayfinder/wayfinderlaw21.ParticleDraws", spec := "particleDraws", unfollowed := true, recurses := true, apart := false }
def ParticleDrawsSaid : Prop := particleDrawsRow.holds Try.pinned (OpenSpec.ofChange particleDrawsSpec)

/-- ITS FALSE NEIGHBOUR: 'it returns false'. Refute it at one input. -/
def particleDrawsWrong : ChangeSpec := { name := "particleDraws", fn := fun _ => fun
  | [d1, d2, d3] => { results := [.lit (.bool false)], args := [d1, d2, d3] }
  | _ => none }
def ParticleDrawsWrongFalsely : Prop := particleDrawsRow.holds Try.pinned (OpenSpec.ofChange particleDrawsWrong)

/-- 'wayfinderlaw21.ParticleSpread': WHATEVER THE INPUT: true; the input reads as it did. -/
def particleSpreadSpec : ChangeSpec := { name := "particleSpread", fn := fun _ => fun
  | [d1, d2, d3] => { results := [.lit (.bool true)], args := [d1, d2, d3] }
  | _ => none }
def particleSpreadRow : OpenClaim := { program := "ytgdglgcfmebonaa", sum := "a3e85d4de4a81c69f3b77acc3e989d6667d65a1b8edf6a318d993861d80e48a6", func := "wayfinder/wayfinderlaw21.ParticleSpread", spec := "particleSpread", unfollowed := true, recurses := true, apart := false }
def ParticleSpreadSaid : Prop := particleSpreadRow.holds Try.pinned (OpenSpec.ofChange particleSpreadSpec)

/-- ITS FALSE NEIGHBOUR: 'it returns false'. Refute it at one input. -/
def particleSpreadWrong : ChangeSpec := { name := "particleSpread", fn := fun _ => fun
  | [d1, d2, d3] => { results := [.lit (.bool false)], args := [d1, d2, d3] }
  | _ => none }
def ParticleSpreadWrongFalsely : Prop := particleSpreadRow.holds Try.pinned (OpenSpec.ofChange particleSpreadWrong)

/-- 'wayfinderlaw21.ParticleMoves': WHATEVER THE INPUT: true; the input reads as it did. -/
def particleMovesSpec : ChangeSpec := { name := "particleMoves", fn := fun _ => fun
  | [d1, d2] => { results := [.lit (.bool true)], args := [d1, d2] }
  | _ => none }
def particleMovesRow : OpenClaim := { program := "ytgdglgcfmebonaa", sum := "a3e85d4de4a81c69f3b77acc3e989d6667d65a1b8edf6a318d993861d80e48a6", func := "wayfinder/wayfinderlaw21.ParticleMoves", spec := "particleMoves", unfollowed := true, recurses := true, apart := false }
def ParticleMovesSaid : Prop := particleMovesRow.holds Try.pinned (OpenSpec.ofChange particleMovesSpec)

/-- ITS FALSE NEIGHBOUR: 'it returns false'. Refute it at one input. -/
def particleMovesWrong : ChangeSpec := { name := "particleMoves", fn := fun _ => fun
  | [d1, d2] => { results := [.lit (.bool false)], args := [d1, d2] }
  | _ => none }
def ParticleMovesWrongFalsely : Prop := particleMovesRow.holds Try.pinned (OpenSpec.ofChange particleMovesWrong)

/-- 'wayfinderlaw21.ParticleWithin': WHATEVER THE INPUT: true; the input reads as it did. -/
def particleWithinSpec : ChangeSpec := { name := "particleWithin", fn := fun _ => fun
  | [d1, d2] => { results := [.lit (.bool true)], args := [d1, d2] }
  | _ => none }
def particleWithinRow : OpenClaim := { program := "ytgdglgcfmebonaa", sum := "a3e85d4de4a81c69f3b77acc3e989d6667d65a1b8edf6a318d993861d80e48a6", func := "wayfinder/wayfinderlaw21.ParticleWithin", spec := "particleWithin", unfollowed := true, recurses := true, apart := false }
def ParticleWithinSaid : Prop := particleWithinRow.holds Try.pinned (OpenSpec.ofChange particleWithinSpec)

/-- ITS FALSE NEIGHBOUR: 'it returns false'. Refute it at one input. -/
def particleWithinWrong : ChangeSpec := { name := "particleWithin", fn := fun _ => fun
  | [d1, d2] => { results := [.lit (.bool false)], args := [d1, d2] }
  | _ => none }
def ParticleWithinWrongFalsely : Prop := particleWithinRow.holds Try.pinned (OpenSpec.ofChange particleWithinWrong)

/-- 'wayfinderlaw21.ParticleTruth': WHATEVER THE INPUT: true; the input reads as it did. -/
def particleTruthSpec : ChangeSpec := { name := "particleTruth", fn := fun _ => fun
  | [d1, d2, d3] => { results := [.lit (.bool true)], args := [d1, d2, d3] }
  | _ => none }
def particleTruthRow : OpenClaim := { program := "ytgdglgcfmebonaa", sum := "a3e85d4de4a81c69f3b77acc3e989d6667d65a1b8edf6a318d993861d80e48a6", func := "wayfinder/wayfinderlaw21.ParticleTruth", spec := "particleTruth", unfollowed := true, recurses := true, apart := false }
def ParticleTruthSaid : Prop := particleTruthRow.holds Try.pinned (OpenSpec.ofChange particleTruthSpec)

/-- ITS FALSE NEIGHBOUR: 'it returns false'. Refute it at one input. -/
def particleTruthWrong : ChangeSpec := { name := "particleTruth", fn := fun _ => fun
  | [d1, d2, d3] => { results := [.lit (.bool false)], args := [d1, d2, d3] }
  | _ => none }
def ParticleTruthWrongFalsely : Prop := particleTruthRow.holds Try.pinned (OpenSpec.ofChange particleTruthWrong)

/- THE SECOND FORM. 'bulk': how many values and letters a reading holds, each counted each time it is reached (what is shared counts as often as it is met; a slice's spare places count too). A statement '..UptoSaid' is the law's where the arguments, and the package variables that the reading takes, are together of bulk at most 1048576: NARROWER than '..Said'. Prove '..Said' where nothing that the law and all that it calls make is longer than what came in: it says more and counts as full. Else prove '..UptoSaid'. A law counts once. -/
mutual
def uptoBulk {H : Type} : DataW H → Nat
  | .lit (.string bytes) => bytes.length + 1
  | .lit _ => 1
  | .nil => 1
  | .ptr d => uptoBulk d + 1
  | .slice elems spare => uptoBulkAll elems + uptoBulkAll spare + 1
  | .agg parts => uptoBulkAll parts + 1
  | .iface _ d => uptoBulk d + 1
  | .map entries => uptoBulkEntries entries + 1
  | .held _ => 1
def uptoBulkAll {H : Type} : List (DataW H) → Nat
  | [] => 0
  | d :: r => uptoBulk d + uptoBulkAll r
def uptoBulkEntries {H : Type} : List (Lit × DataW H) → Nat
  | [] => 0
  | x :: r => uptoBulkEntry x + uptoBulkEntries r
def uptoBulkEntry {H : Type} : Lit × DataW H → Nat
  | (.string bytes, d) => bytes.length + uptoBulk d + 1
  | (_, d) => uptoBulk d + 1
 end
def uptoSmall : (H : Type) → List (DataW H) → Bool := fun _ ds => decide (uptoBulkAll ds ≤ 1048576)
def OpenSpec.upto (s : _root_.Go.ChangeSpec) : _root_.Go.OpenSpec := { _root_.Go.OpenSpec.ofChange s with cond := some uptoSmall }

/-- 'wayfinderlaw21.ParticleShares', WHERE WHAT IT READS IS OF BULK AT MOST 1048576: true; the input reads as it did. -/
def particleSharesUptoRow : OpenClaim := { program := "ytgdglgcfmebonaa", sum := "a3e85d4de4a81c69f3b77acc3e989d6667d65a1b8edf6a318d993861d80e48a6", func := "wayfinder/wayfinderlaw21.ParticleShares", spec := "particleShares", unfollowed := true, recurses := true, apart := false, narrowed := true }
def ParticleSharesUptoSaid : Prop := particleSharesUptoRow.holds Try.pinned (OpenSpec.upto particleSharesSpec)

/-- 'wayfinderlaw21.ParticleEffective', WHERE WHAT IT READS IS OF BULK AT MOST 1048576: true; the input reads as it did. -/
def particleEffectiveUptoRow : OpenClaim := { program := "ytgdglgcfmebonaa", sum := "a3e85d4de4a81c69f3b77acc3e989d6667d65a1b8edf6a318d993861d80e48a6", func := "wayfinder/wayfinderlaw21.ParticleEffective", spec := "particleEffective", unfollowed := true, recurses := true, apart := false, narrowed := true }
def ParticleEffectiveUptoSaid : Prop := particleEffectiveUptoRow.holds Try.pinned (OpenSpec.upto particleEffectiveSpec)

/-- 'wayfinderlaw21.ParticleResamples', WHERE WHAT IT READS IS OF BULK AT MOST 1048576: true; the input reads as it did. -/
def particleResamplesUptoRow : OpenClaim := { program := "ytgdglgcfmebonaa", sum := "a3e85d4de4a81c69f3b77acc3e989d6667d65a1b8edf6a318d993861d80e48a6", func := "wayfinder/wayfinderlaw21.ParticleResamples", spec := "particleResamples", unfollowed := true, recurses := true, apart := false, narrowed := true }
def ParticleResamplesUptoSaid : Prop := particleResamplesUptoRow.holds Try.pinned (OpenSpec.upto particleResamplesSpec)

/-- 'wayfinderlaw21.ParticleMeans', WHERE WHAT IT READS IS OF BULK AT MOST 1048576: true; the input reads as it did. -/
def particleMeansUptoRow : OpenClaim := { program := "ytgdglgcfmebonaa", sum := "a3e85d4de4a81c69f3b77acc3e989d6667d65a1b8edf6a318d993861d80e48a6", func := "wayfinder/wayfinderlaw21.ParticleMeans", spec := "particleMeans", unfollowed := true, recurses := true, apart := false, narrowed := true }
def ParticleMeansUptoSaid : Prop := particleMeansUptoRow.holds Try.pinned (OpenSpec.upto particleMeansSpec)

/-- 'wayfinderlaw21.ParticleDraws', WHERE WHAT IT READS IS OF BULK AT MOST 1048576: true; the input reads as it did. -/
def particleDrawsUptoRow : OpenClaim := { program := "ytgdglgcfmebonaa", sum := "a3e85d4de4a81c69f3b77acc3e989d6667d65a1b8edf6a318d993861d80e48a6", func := "wayfinder/wayfinderlaw21.ParticleDraws", spec := "particleDraws", unfollowed := true, recurses := true, apart := false, narrowed := true }
def ParticleDrawsUptoSaid : Prop := particleDrawsUptoRow.holds Try.pinned (OpenSpec.upto particleDrawsSpec)

/-- 'wayfinderlaw21.ParticleSpread', WHERE WHAT IT READS IS OF BULK AT MOST 1048576: true; the input reads as it did. -/
def particleSpreadUptoRow : OpenClaim := { program := "ytgdglgcfmebonaa", sum := "a3e85d4de4a81c69f3b77acc3e989d6667d65a1b8edf6a318d993861d80e48a6", func := "wayfinder/wayfinderlaw21.ParticleSpread", spec := "particleSpread", unfollowed := true, recurses := true, apart := false, narrowed := true }
def ParticleSpreadUptoSaid : Prop := particleSpreadUptoRow.holds Try.pinned (OpenSpec.upto particleSpreadSpec)

/-- 'wayfinderlaw21.ParticleMoves', WHERE WHAT IT READS IS OF BULK AT MOST 1048576: true; the input reads as it did. -/
def particleMovesUptoRow : OpenClaim := { program := "ytgdglgcfmebonaa", sum := "a3e85d4de4a81c69f3b77acc3e989d6667d65a1b8edf6a318d993861d80e48a6", func := "wayfinder/wayfinderlaw21.ParticleMoves", spec := "particleMoves", unfollowed := true, recurses := true, apart := false, narrowed := true }
def ParticleMovesUptoSaid : Prop := particleMovesUptoRow.holds Try.pinned (OpenSpec.upto particleMovesSpec)

/-- 'wayfinderlaw21.ParticleWithin', WHERE WHAT IT READS IS OF BULK AT MOST 1048576: true; the input reads as it did. -/
def particleWithinUptoRow : OpenClaim := { program := "ytgdglgcfmebonaa", sum := "a3e85d4de4a81c69f3b77acc3e989d6667d65a1b8edf6a318d993861d80e48a6", func := "wayfinder/wayfinderlaw21.ParticleWithin", spec := "particleWithin", unfollowed := true, recurses := true, apart := false, narrowed := true }
def ParticleWithinUptoSaid : Prop := particleWithinUptoRow.holds Try.pinned (OpenSpec.upto particleWithinSpec)

/-- 'wayfinderlaw21.ParticleTruth', WHERE WHAT IT READS IS OF BULK AT MOST 1048576: true; the input reads as it did. -/
def particleTruthUptoRow : OpenClaim := { program := "ytgdglgcfmebonaa", sum := "a3e85d4de4a81c69f3b77acc3e989d6667d65a1b8edf6a318d993861d80e48a6", func := "wayfinder/wayfinderlaw21.ParticleTruth", spec := "particleTruth", unfollowed := true, recurses := true, apart := false, narrowed := true }
def ParticleTruthUptoSaid : Prop := particleTruthUptoRow.holds Try.pinned (OpenSpec.upto particleTruthSpec)

end Rows
end Go.Proofs.Ytgdglgcfmebonaa
