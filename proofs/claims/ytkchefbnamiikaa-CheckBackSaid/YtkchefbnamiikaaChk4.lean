/- The live question of the statements on blocks. -/
import Derived.Test.YtkchefbnamiikaaChk3
set_option linter.unusedSimpArgs false
namespace Go.Proofs.Ytkchefbnamiikaa
open Go.Vc Go.Chk Go.Zig
theorem zi_two : zi 2 = [4] := by
  have : (foldI 2).toNat = 4 := rfl
  unfold zi zu
  rw [this, show 4 / 128 = 0 from rfl, hi_zero]; rfl
theorem alive_sum : sum [49, 50, 51, 52, 53, 54, 55, 56, 57] = 3808858755 := by decide +kernel
theorem alive_blk : (blkB [104, 105]).length = 7 := by
  rw [blkB_len]
  have : (([104, 105] : List UInt8).length : Int) = 2 := rfl
  rw [this, zi_two]; rfl
set_option maxRecDepth 100000 in
theorem calive_c (w : World) : FnC Try.prog 26 #[] w fun v w' => v = .bool true ∧ Later w w' := by
  refine enter26 ?_
  unfold B26
  repeat' (first | (simp (disch := omega) only [push_cast, ↓reduceIte, Nat.reduceEqDiff, Int.reduceToNat, Nat.reducePow, Int.reducePow, Int.reduceNeg, Nat.reduceMul, Int.reduceMul, Int.reduceAdd, Int.reduceSub, Nat.reduceAdd, Nat.reduceSub, Nat.reduceLeDiff, Int.reduceLT, Int.reduceLE, Int.reduceEq, Int.reduceMod, Int.reduceDiv, reduceCtorEq, not_true_eq_false, not_false_eq_true]) | refine vIfE_of (fun _ => ?_) (fun _ => ?_) | refine vIfD_of (fun _ => ?_) (fun _ => ?_) | refine vIfQ_of (fun _ => ?_) (fun _ => ?_) | refine vIfV_of (fun _ => ?_) (fun _ => ?_) | refine And.intro (by omega) ?_ | refine drawn_q ?_ | fail)
  refine vConv_const Try.underlying24 Try.underlying5 ?_
  have hl1 := later_alloc w (.cells (([104, 105] : List UInt8).map u8v).toArray 5 (2, 3))
  have hS : Sl (w.alloc (.cells (([104, 105] : List UInt8).map u8v).toArray 5 (2, 3))) (.slice (some ⟨w.heap.size, 0, none⟩) 2 2) (([104, 105] : List UInt8).map u8v) := Sl.litM w _ _ _ (by unfold maxLen; simp)
  have e0 : w.alloc (.cells #[.int .u8 104, .int .u8 105] 5 ((#[.int .u8 104, .int .u8 105] : Array Value).size, (#[.int .u8 104, .int .u8 105] : Array Value).size + 1)) = w.alloc (.cells (([104, 105] : List UInt8).map u8v).toArray 5 (2, 3)) := rfl
  rw [e0]
  generalize w.alloc (.cells (([104, 105] : List UInt8).map u8v).toArray 5 (2, 3)) = w1 at *
  repeat' (first | (simp (disch := omega) only [push_cast, ↓reduceIte, Nat.reduceEqDiff, Int.reduceToNat, Nat.reducePow, Int.reducePow, Int.reduceNeg, Nat.reduceMul, Int.reduceMul, Int.reduceAdd, Int.reduceSub, Nat.reduceAdd, Nat.reduceSub, Nat.reduceLeDiff, Int.reduceLT, Int.reduceLE, Int.reduceEq, Int.reduceMod, Int.reduceDiv, reduceCtorEq, not_true_eq_false, not_false_eq_true]) | refine vIfE_of (fun _ => ?_) (fun _ => ?_) | refine vIfD_of (fun _ => ?_) (fun _ => ?_) | refine vIfQ_of (fun _ => ?_) (fun _ => ?_) | refine vIfV_of (fun _ => ?_) (fun _ => ?_) | refine And.intro (by omega) ?_ | refine drawn_q ?_ | fail)
  refine (block_c _ [104, 105] w1 hS).mono ?_
  rintro _ w2 ⟨hbd, hl2⟩
  have hl12 := hl1.trans hl2
  rcases hbd with ⟨hbad, _⟩ | ⟨_, x, rfl, hx⟩
  · simp at hbad
  have h7 := alive_blk
  have hf := fst_blk (b := [104, 105]) (by simp) [7]
  generalize blkB [104, 105] = bk at *
  obtain ⟨ox, cx, rfl⟩ := hx.slice
  repeat' (first | (simp (disch := omega) only [push_cast, ↓reduceIte, Nat.reduceEqDiff, Int.reduceToNat, Nat.reducePow, Int.reducePow, Int.reduceNeg, Nat.reduceMul, Int.reduceMul, Int.reduceAdd, Int.reduceSub, Nat.reduceAdd, Nat.reduceSub, Nat.reduceLeDiff, Int.reduceLT, Int.reduceLE, Int.reduceEq, Int.reduceMod, Int.reduceDiv, reduceCtorEq, not_true_eq_false, not_false_eq_true]) | refine vIfE_of (fun _ => ?_) (fun _ => ?_) | refine vIfD_of (fun _ => ?_) (fun _ => ?_) | refine vIfQ_of (fun _ => ?_) (fun _ => ?_) | refine vIfV_of (fun _ => ?_) (fun _ => ?_) | refine And.intro (by omega) ?_ | refine drawn_q ?_ | fail)
  have hln := later_alloc w2 (.cells #[] 5)
  refine vAppend_own Try.underlying24 ti5 rfl (by decide) (base := w2.heap.size) (own_lit w2 [] 5 1 0 rfl (Nat.zero_le _) (Nat.le_refl _)) (sl8_n (hx.sl.later hln)) (u8vs_one _) (by unfold maxLen; omega) (by omega) hln.size ?_
  intro y w3 hy gy _
  have hl3 : Later w2 w3 := hln.appended (own_lit w2 [] 5 1 0 rfl (Nat.zero_le _) (Nat.le_refl _)) (Nat.le_refl _) gy
  have hy := own8_of (l := bk) hy
  have hyo := hy
  unfold OwnB at hyo
  obtain ⟨oy, cy, rfl⟩ := hy.slice
  repeat' (first | (simp (disch := omega) only [push_cast, ↓reduceIte, Nat.reduceEqDiff, Int.reduceToNat, Nat.reducePow, Int.reducePow, Int.reduceNeg, Nat.reduceMul, Int.reduceMul, Int.reduceAdd, Int.reduceSub, Nat.reduceAdd, Nat.reduceSub, Nat.reduceLeDiff, Int.reduceLT, Int.reduceLE, Int.reduceEq, Int.reduceMod, Int.reduceDiv, reduceCtorEq, not_true_eq_false, not_false_eq_true]) | refine vIfE_of (fun _ => ?_) (fun _ => ?_) | refine vIfD_of (fun _ => ?_) (fun _ => ?_) | refine vIfQ_of (fun _ => ?_) (fun _ => ?_) | refine vIfV_of (fun _ => ?_) (fun _ => ?_) | refine And.intro (by omega) ?_ | refine drawn_q ?_ | fail)
  refine vAppend_one Try.underlying24 ti5 rfl hyo rfl (by unfold maxLen; omega) (by omega) hl3.size ?_
  intro z w4 hz gz
  have hl4 : Later w2 w4 := gz _ hl3 (Nat.le_refl _)
  have hz : OwnB w4 w2.heap.size 5 z (bk ++ [7]) := own8_app (b := [7]) hz
  repeat' (first | (simp (disch := omega) only [push_cast, ↓reduceIte, Nat.reduceEqDiff, Int.reduceToNat, Nat.reducePow, Int.reducePow, Int.reduceNeg, Nat.reduceMul, Int.reduceMul, Int.reduceAdd, Int.reduceSub, Nat.reduceAdd, Nat.reduceSub, Nat.reduceLeDiff, Int.reduceLT, Int.reduceLE, Int.reduceEq, Int.reduceMod, Int.reduceDiv, reduceCtorEq, not_true_eq_false, not_false_eq_true]) | refine vIfE_of (fun _ => ?_) (fun _ => ?_) | refine vIfD_of (fun _ => ?_) (fun _ => ?_) | refine vIfQ_of (fun _ => ?_) (fun _ => ?_) | refine vIfV_of (fun _ => ?_) (fun _ => ?_) | refine And.intro (by omega) ?_ | refine drawn_q ?_ | fail)
  refine (first_c _ (bk ++ [7]) w4 hz.sl (by simp; omega)).mono ?_
  rintro _ w5 ⟨⟨u, rfl, hu⟩, hl5⟩
  have hfs := fsR_some hf
  rw [hfs] at hu ⊢
  dsimp only at hu ⊢
  obtain ⟨ou, cu, rfl⟩ := hu.slice
  repeat' (first | (simp (disch := omega) only [push_cast, ↓reduceIte, Nat.reduceEqDiff, Int.reduceToNat, Nat.reducePow, Int.reducePow, Int.reduceNeg, Nat.reduceMul, Int.reduceMul, Int.reduceAdd, Int.reduceSub, Nat.reduceAdd, Nat.reduceSub, Nat.reduceLeDiff, Int.reduceLT, Int.reduceLE, Int.reduceEq, Int.reduceMod, Int.reduceDiv, reduceCtorEq, not_true_eq_false, not_false_eq_true]) | refine vIfE_of (fun _ => ?_) (fun _ => ?_) | refine vIfD_of (fun _ => ?_) (fun _ => ?_) | refine vIfQ_of (fun _ => ?_) (fun _ => ?_) | refine vIfV_of (fun _ => ?_) (fun _ => ?_) | refine And.intro (by omega) ?_ | refine drawn_q ?_ | fail)
  refine vConv_const Try.underlying24 Try.underlying5 ?_
  have hl6 := later_alloc w5 (.cells (([49, 50, 51, 52, 53, 54, 55, 56, 57] : List UInt8).map u8v).toArray 5 (9, 10))
  have hS6 : Sl (w5.alloc (.cells (([49, 50, 51, 52, 53, 54, 55, 56, 57] : List UInt8).map u8v).toArray 5 (9, 10))) (.slice (some ⟨w5.heap.size, 0, none⟩) 9 9) (([49, 50, 51, 52, 53, 54, 55, 56, 57] : List UInt8).map u8v) := Sl.litM w5 _ _ _ (by unfold maxLen; simp)
  have e6 : w5.alloc (.cells #[.int .u8 49, .int .u8 50, .int .u8 51, .int .u8 52, .int .u8 53, .int .u8 54, .int .u8 55, .int .u8 56, .int .u8 57] 5 ((#[.int .u8 49, .int .u8 50, .int .u8 51, .int .u8 52, .int .u8 53, .int .u8 54, .int .u8 55, .int .u8 56, .int .u8 57] : Array Value).size, (#[.int .u8 49, .int .u8 50, .int .u8 51, .int .u8 52, .int .u8 53, .int .u8 54, .int .u8 55, .int .u8 56, .int .u8 57] : Array Value).size + 1)) = w5.alloc (.cells (([49, 50, 51, 52, 53, 54, 55, 56, 57] : List UInt8).map u8v).toArray 5 (9, 10)) := rfl
  rw [e6]
  generalize w5.alloc (.cells (([49, 50, 51, 52, 53, 54, 55, 56, 57] : List UInt8).map u8v).toArray 5 (9, 10)) = w6 at *
  repeat' (first | (simp (disch := omega) only [push_cast, ↓reduceIte, Nat.reduceEqDiff, Int.reduceToNat, Nat.reducePow, Int.reducePow, Int.reduceNeg, Nat.reduceMul, Int.reduceMul, Int.reduceAdd, Int.reduceSub, Nat.reduceAdd, Nat.reduceSub, Nat.reduceLeDiff, Int.reduceLT, Int.reduceLE, Int.reduceEq, Int.reduceMod, Int.reduceDiv, reduceCtorEq, not_true_eq_false, not_false_eq_true]) | refine vIfE_of (fun _ => ?_) (fun _ => ?_) | refine vIfD_of (fun _ => ?_) (fun _ => ?_) | refine vIfQ_of (fun _ => ?_) (fun _ => ?_) | refine vIfV_of (fun _ => ?_) (fun _ => ?_) | refine And.intro (by omega) ?_ | refine drawn_q ?_ | fail)
  refine (sum_c _ _ w6 hS6).mono ?_
  rintro _ w7 ⟨rfl, hl7⟩
  have es : ((sum [49, 50, 51, 52, 53, 54, 55, 56, 57] : Nat) : Int) = 3808858755 := by rw [alive_sum]; rfl
  rw [es]
  have hl57 := hl6.trans hl7
  have h7' : (bk.length : Int) = 7 := by omega
  repeat' (first | (simp (disch := omega) only [push_cast, ↓reduceIte, Nat.reduceEqDiff, Int.reduceToNat, Nat.reducePow, Int.reducePow, Int.reduceNeg, Nat.reduceMul, Int.reduceMul, Int.reduceAdd, Int.reduceSub, Nat.reduceAdd, Nat.reduceSub, Nat.reduceLeDiff, Int.reduceLT, Int.reduceLE, Int.reduceEq, Int.reduceMod, Int.reduceDiv, reduceCtorEq, not_true_eq_false, not_false_eq_true, h7']) | refine vIfE_of (fun _ => ?_) (fun _ => ?_) | refine vIfD_of (fun _ => ?_) (fun _ => ?_) | refine vIfQ_of (fun _ => ?_) (fun _ => ?_) | refine vIfV_of (fun _ => ?_) (fun _ => ?_) | refine And.intro (by omega) ?_ | refine drawn_q ?_ | fail)
  refine vConv_bytes Try.underlying24 Try.underlying9 Try.underlying5 (hu.sl.later hl57) ?_
  have e8 : strOf [104, 105] = ⟨#[104, 105]⟩ := rfl
  rw [e8]
  repeat' (first | (simp (disch := omega) only [push_cast, ↓reduceIte, Nat.reduceEqDiff, Int.reduceToNat, Nat.reducePow, Int.reducePow, Int.reduceNeg, Nat.reduceMul, Int.reduceMul, Int.reduceAdd, Int.reduceSub, Nat.reduceAdd, Nat.reduceSub, Nat.reduceLeDiff, Int.reduceLT, Int.reduceLE, Int.reduceEq, Int.reduceMod, Int.reduceDiv, reduceCtorEq, not_true_eq_false, not_false_eq_true]) | refine vIfE_of (fun _ => ?_) (fun _ => ?_) | refine vIfD_of (fun _ => ?_) (fun _ => ?_) | refine vIfQ_of (fun _ => ?_) (fun _ => ?_) | refine vIfV_of (fun _ => ?_) (fun _ => ?_) | refine And.intro (by omega) ?_ | refine drawn_q ?_ | fail)
  exact ((hl12.trans hl4).trans hl5).trans hl57
end Go.Proofs.Ytkchefbnamiikaa
