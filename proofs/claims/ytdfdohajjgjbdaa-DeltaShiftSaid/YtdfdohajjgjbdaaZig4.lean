/- The contracts of a clone of bytes, of zig.Text, and of a new reader. -/
import Derived.Test.YtdfdohajjgjbdaaZig3
import Derived.Test.YtdfdohajjgjbdaaMem2
set_option linter.unusedSimpArgs false
namespace Go.Proofs.Ytdfdohajjgjbdaa
open Go.Vc Go.Zig

theorem clone_c (b : Value) (bs : List UInt8) (w : World) (hb : Sl w b (bs.map u8v)) (hl : bs.length ≤ 140737488355000) :
    FnC Try.prog 72 #[b] w fun v w' => OwnB w' w.heap.size 5 v bs ∧ Later w w' := by
  obtain ⟨o, c, rfl, h1, h2, h3, h4⟩ := hb.open
  unfold maxLen at h2
  refine enter72 _ ?_
  unfold B72
  simp (disch := omega) only [push_cast, ↓reduceIte, Nat.reduceEqDiff, Int.reduceToNat, Nat.reducePow, Int.reducePow, Int.reduceNeg, Nat.reduceMul, Int.reduceMul, Int.reduceAdd, Int.reduceSub, Nat.reduceAdd, Nat.reduceSub, Nat.reduceLeDiff, Int.reduceLT, Int.reduceLE, Int.reduceEq, Int.reduceMod, Int.reduceDiv, reduceCtorEq, not_true_eq_false, not_false_eq_true]
  first | refine vIfD_of (fun hn => ?_) (fun hn => ?_) | refine vIfE_of (fun hn => ?_) (fun hn => ?_) | refine vIfQ_of (fun hn => ?_) (fun hn => ?_) | refine vIfV_of (fun hn => ?_) (fun hn => ?_)
  · have : bs = [] := by
      cases o with
      | none => simpa using (h3 rfl).1
      | some a => simp at hn
    subst this
    simp (disch := omega) only [push_cast, ↓reduceIte, Nat.reduceEqDiff, Int.reduceToNat, Nat.reducePow, Int.reducePow, Int.reduceNeg, Nat.reduceMul, Int.reduceMul, Int.reduceAdd, Int.reduceSub, Nat.reduceAdd, Nat.reduceSub, Nat.reduceLeDiff, Int.reduceLT, Int.reduceLE, Int.reduceEq, Int.reduceMod, Int.reduceDiv, reduceCtorEq, not_true_eq_false, not_false_eq_true]
    exact ⟨own_nil _ _ _ _, Later.refl _⟩
  · simp (disch := omega) only [push_cast, ↓reduceIte, Nat.reduceEqDiff, Int.reduceToNat, Nat.reducePow, Int.reducePow, Int.reduceNeg, Nat.reduceMul, Int.reduceMul, Int.reduceAdd, Int.reduceSub, Nat.reduceAdd, Nat.reduceSub, Nat.reduceLeDiff, Int.reduceLT, Int.reduceLE, Int.reduceEq, Int.reduceMod, Int.reduceDiv, reduceCtorEq, not_true_eq_false, not_false_eq_true]
    refine vAppend_own Try.underlying36 ti5 rfl (by decide) (base := w.heap.size) (own_lit w [] _ 1 0 rfl (Nat.zero_le _) (Nat.le_refl _)) (SlN.later (n := bs.length) (by simpa [Sl] using hb) (later_alloc _ _)) (u8vs_one _) (by unfold maxLen; omega) (by omega) (by simp) ?_
    intro v' w' ho hg _
    simp (disch := omega) only [push_cast, ↓reduceIte, Nat.reduceEqDiff, Int.reduceToNat, Nat.reducePow, Int.reducePow, Int.reduceNeg, Nat.reduceMul, Int.reduceMul, Int.reduceAdd, Int.reduceSub, Nat.reduceAdd, Nat.reduceSub, Nat.reduceLeDiff, Int.reduceLT, Int.reduceLE, Int.reduceEq, Int.reduceMod, Int.reduceDiv, reduceCtorEq, not_true_eq_false, not_false_eq_true]
    refine ⟨by simpa [OwnB] using ho, (later_alloc _ _).appended (own_lit w [] _ 1 0 rfl (Nat.zero_le _) (Nat.le_refl _)) (Nat.le_refl _) hg⟩
theorem zi_len {n : Int} (h : I64 n) : (zi n).length ≤ 10 ∧ 1 ≤ (zi n).length := by
  have := foldI_u64 h
  unfold U64 at this
  exact zu_len (by omega)
end Go.Proofs.Ytdfdohajjgjbdaa
