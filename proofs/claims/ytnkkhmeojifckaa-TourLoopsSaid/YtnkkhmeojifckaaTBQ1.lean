/- A part of the proof of a statement about this seat: how a function is stepped through, and plain laws. No conditions. -/
import Derived.Test.YtnkkhmeojifckaaRows
import Derived.Test.YtnkkhmeojifckaaTBSz4
import Derived.KernelRfl
set_option linter.unusedVariables false
set_option linter.unusedSimpArgs false
set_option maxRecDepth 20000
namespace Go.Proofs.Ytnkkhmeojifckaa
open Go.Sx
end Go.Proofs.Ytnkkhmeojifckaa
namespace Go.Proofs.Ytnkkhmeojifckaa
open Go.Sx
end Go.Proofs.Ytnkkhmeojifckaa
namespace Go.Proofs.Ytnkkhmeojifckaa
open Go.Sx
end Go.Proofs.Ytnkkhmeojifckaa
namespace Go.Proofs.Ytnkkhmeojifckaa
open Go.Sx
end Go.Proofs.Ytnkkhmeojifckaa
namespace Go.Proofs.Ytnkkhmeojifckaa
open Go.Sx
def x41 : XFn := ⟨14, (.seq (.reg false [K1 4 .mv (.bool false)]) (.seq (.reg false [O1 5 .mv 0, O1 6 .mv 1, O1 7 (.un .neg) 6, O2 8 (.bin .geq) 5 7, O1 9 .mv 8, G1 10 .mv 0 9 true, G1 11 .mv 1 9 true, G2 12 (.bin .leq) 10 11 9 true, ⟨(some 13), .pick, [(.t 9), (.t 12), (.k (.bool false))], none⟩, O1 4 .mv 13]) .ret)), [(.s 4)]⟩
theorem x41_ok : xfn Try.prog Try.f41 = some x41.er := by kernel_rfl
structure Spn where
  a : Int
  b : Int
  c : Int
  d : Int
  e : Bool
  l : Bool
def g41 : Con := fun args_ E_ nn_ => match args_ with
  | [.c (.v (.int .i64 n)), .c (.v (.int .i64 most))] => some (.q (-9223372036854775807 ≤ most ∧ most ≤ 9223372036854775807) (.o (.c (.v (.bool (decide (-most ≤ n ∧ n ≤ most)))))))
  | _ => none
theorem c41 : COk Try.prog 41 g41 := by
  refine cok_q Try.func41 x41_ok (by kernel_rfl) (cok_tab cok_nil) ?_
  intro args_ E_ nn_ cr_ hg_
  unfold g41 at hg_
  split at hg_
  · rename_i n most
    cases hg_
    refine ⟨_, _, rfl, 0, [], [.c (.v (.int .i64 n)), .c (.v (.int .i64 most))], [], .o (.c (.v (.bool (decide (-most ≤ n ∧ n ≤ most))))), rfl, rfl, by simp only [push_cast, Nat.reduceLT, Nat.reduceAdd], by simp only [push_cast, Nat.reduceLT, Nat.reduceAdd], by simp only [push_cast, Nat.reduceLT, Nat.reduceAdd], rfl, trivial, rfl, ?_⟩
    intro hpre hlen
    refine ⟨trivial, ?_⟩
    simp (config := {maxSteps := 10000000}) only [x41, push_cast, Nat.reduceAdd, Nat.reduceSub, Nat.reduceLeDiff, Nat.reduceEqDiff, Nat.reduceBEq, Nat.reduceMul, Nat.reduceLT, reduceIte, reduceCtorEq, Int.reduceLE, Int.reduceLT, Int.reduceEq, Int.reduceMul, Int.reduceAdd, Int.reduceSub, Int.reduceNeg, Int.reduceToNat, Int.reduceNe]
    rw [wrapI (by omega) (by omega)]
    rw [Bool.eq_iff_iff]
    simp []
    try omega
  · cases hg_
end Go.Proofs.Ytnkkhmeojifckaa
namespace Go.Proofs.Ytnkkhmeojifckaa
open Go.Sx
end Go.Proofs.Ytnkkhmeojifckaa
namespace Go.Proofs.Ytnkkhmeojifckaa
open Go.Sx
end Go.Proofs.Ytnkkhmeojifckaa
namespace Go.Proofs.Ytnkkhmeojifckaa
open Go.Sx
end Go.Proofs.Ytnkkhmeojifckaa
