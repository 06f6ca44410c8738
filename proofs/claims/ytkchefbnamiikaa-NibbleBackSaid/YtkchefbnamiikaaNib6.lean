/- The live question of nibble's statements. -/
import Derived.Test.YtkchefbnamiikaaNib5
set_option linter.unusedSimpArgs false
namespace Go.Proofs.Ytkchefbnamiikaa
open Go.Vc Go.Nib
theorem alive_pack : pkE 3 (wid [5, 2, 7]) 3 = 0 ∧ pkR [5, 2, 7] 3 = [213, 1] ∧ wid [5, 2, 7] = 3 ∧ atR [213, 1] 2 3 = (7, 0) := by decide +kernel
set_option maxRecDepth 100000 in
theorem nalive_c (w : World) : FnC Try.prog 13 #[] w fun v w' => v = .bool true ∧ Later w w' := by
  obtain ⟨e1, e2, e3, e4⟩ := alive_pack
  refine enter13 ?_
  unfold B13
  repeat' (first | (simp (disch := omega) only [push_cast, ↓reduceIte, Nat.reduceEqDiff, Int.reduceToNat, Nat.reducePow, Int.reducePow, Int.reduceNeg, Nat.reduceMul, Int.reduceMul, Int.reduceAdd, Int.reduceSub, Nat.reduceAdd, Nat.reduceSub, Nat.reduceLeDiff, Int.reduceLT, Int.reduceLE, Int.reduceEq, Int.reduceMod, Int.reduceDiv, reduceCtorEq, not_true_eq_false, not_false_eq_true]) | refine vIfE_of (fun _ => ?_) (fun _ => ?_) | refine vIfD_of (fun _ => ?_) (fun _ => ?_) | refine vIfQ_of (fun _ => ?_) (fun _ => ?_) | refine vIfV_of (fun _ => ?_) (fun _ => ?_) | refine And.intro (by omega) ?_ | refine drawn_q ?_ | fail)
  have hl1 := later_alloc w (.cells #[.int .u64 5, .int .u64 2, .int .u64 7] 32)
  have hS : Sl (w.alloc (.cells #[.int .u64 5, .int .u64 2, .int .u64 7] 32)) (.slice (some ⟨w.heap.size, 0, none⟩) 3 3) (([5, 2, 7] : List UInt64).map u64v) := Sl.lit w _ _ (by unfold maxLen; simp)
  generalize w.alloc (.cells #[.int .u64 5, .int .u64 2, .int .u64 7] 32) = w1 at *
  refine (pack_c _ _ 3 w1 hS (by simp) (by omega)).mono ?_
  rintro _ w2 ⟨⟨x, rfl, hx⟩, hl2⟩
  rw [e2] at hx
  have e1' : pkE ([5, 2, 7] : List UInt64).length (wid [5, 2, 7]) 3 = 0 := e1
  rw [e1']
  obtain ⟨ox, cx, rfl⟩ := hx.slice
  repeat' (first | (simp (disch := omega) only [push_cast, ↓reduceIte, Nat.reduceEqDiff, Int.reduceToNat, Nat.reducePow, Int.reducePow, Int.reduceNeg, Nat.reduceMul, Int.reduceMul, Int.reduceAdd, Int.reduceSub, Nat.reduceAdd, Nat.reduceSub, Nat.reduceLeDiff, Int.reduceLT, Int.reduceLE, Int.reduceEq, Int.reduceMod, Int.reduceDiv, reduceCtorEq, not_true_eq_false, not_false_eq_true]) | refine vIfE_of (fun _ => ?_) (fun _ => ?_) | refine vIfD_of (fun _ => ?_) (fun _ => ?_) | refine vIfQ_of (fun _ => ?_) (fun _ => ?_) | refine vIfV_of (fun _ => ?_) (fun _ => ?_) | refine And.intro (by omega) ?_ | refine drawn_q ?_ | fail)
  refine (at_c _ [213, 1] 2 3 w2 hx.sl (by simp) (by omega) (by omega)).mono ?_
  rintro _ w3 ⟨rfl, hw⟩
  obtain rfl := hw.symm
  rw [e4]
  unfold tupA
  repeat' (first | (simp (disch := omega) only [push_cast, ↓reduceIte, Nat.reduceEqDiff, Int.reduceToNat, Nat.reducePow, Int.reducePow, Int.reduceNeg, Nat.reduceMul, Int.reduceMul, Int.reduceAdd, Int.reduceSub, Nat.reduceAdd, Nat.reduceSub, Nat.reduceLeDiff, Int.reduceLT, Int.reduceLE, Int.reduceEq, Int.reduceMod, Int.reduceDiv, reduceCtorEq, not_true_eq_false, not_false_eq_true]) | refine vIfE_of (fun _ => ?_) (fun _ => ?_) | refine vIfD_of (fun _ => ?_) (fun _ => ?_) | refine vIfQ_of (fun _ => ?_) (fun _ => ?_) | refine vIfV_of (fun _ => ?_) (fun _ => ?_) | refine And.intro (by omega) ?_ | refine drawn_q ?_ | fail)
  refine vConv_bytes Try.underlying24 Try.underlying9 Try.underlying5 hx.sl ?_
  have e5 : strOf [213, 1] = ⟨#[213, 1]⟩ := rfl
  rw [e5]
  repeat' (first | (simp (disch := omega) only [push_cast, ↓reduceIte, Nat.reduceEqDiff, Int.reduceToNat, Nat.reducePow, Int.reducePow, Int.reduceNeg, Nat.reduceMul, Int.reduceMul, Int.reduceAdd, Int.reduceSub, Nat.reduceAdd, Nat.reduceSub, Nat.reduceLeDiff, Int.reduceLT, Int.reduceLE, Int.reduceEq, Int.reduceMod, Int.reduceDiv, reduceCtorEq, not_true_eq_false, not_false_eq_true]) | refine vIfE_of (fun _ => ?_) (fun _ => ?_) | refine vIfD_of (fun _ => ?_) (fun _ => ?_) | refine vIfQ_of (fun _ => ?_) (fun _ => ?_) | refine vIfV_of (fun _ => ?_) (fun _ => ?_) | refine And.intro (by omega) ?_ | refine drawn_q ?_ | fail)
  refine (width_c _ [5, 2, 7] w2 (hS.later hl2)).mono ?_
  rintro _ w3 ⟨rfl, hw⟩
  obtain rfl := hw.symm
  rw [e3]
  repeat' (first | (simp (disch := omega) only [push_cast, ↓reduceIte, Nat.reduceEqDiff, Int.reduceToNat, Nat.reducePow, Int.reducePow, Int.reduceNeg, Nat.reduceMul, Int.reduceMul, Int.reduceAdd, Int.reduceSub, Nat.reduceAdd, Nat.reduceSub, Nat.reduceLeDiff, Int.reduceLT, Int.reduceLE, Int.reduceEq, Int.reduceMod, Int.reduceDiv, reduceCtorEq, not_true_eq_false, not_false_eq_true]) | refine vIfE_of (fun _ => ?_) (fun _ => ?_) | refine vIfD_of (fun _ => ?_) (fun _ => ?_) | refine vIfQ_of (fun _ => ?_) (fun _ => ?_) | refine vIfV_of (fun _ => ?_) (fun _ => ?_) | refine And.intro (by omega) ?_ | refine drawn_q ?_ | fail)
  exact hl1.trans hl2
end Go.Proofs.Ytkchefbnamiikaa
