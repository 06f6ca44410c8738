/- The trial that all laws of delta begin with. -/
import Derived.Test.YtdfdohajjgjbdaaDel6
import Derived.Test.YtdfdohajjgjbdaaCodesDL
set_option linter.unusedSimpArgs false
namespace Go.Proofs.Ytdfdohajjgjbdaa
open Go.Vc Go.Del Go.Zig Go.Nib
theorem alive_enc : enc [10, 13, 15, 20] = [8, 20, 4, 4, 49] ∧ Srt [10, 13, 15, 20] ∧ ¬ Srt [2, 1] := by
  refine ⟨?_, by decide +kernel, by decide +kernel⟩
  have e1 : zi (([10, 13, 15, 20] : List Int).length : Int) = [8] := by
    show zu 8 = [8]
    unfold zu; rw [hi_zero' (by omega)]; rfl
  have e2 : zi (at_ [10, 13, 15, 20] 0) = [20] := by
    show zu 20 = [20]
    unfold zu; rw [hi_zero' (by omega)]; rfl
  have e3 : mn (Del.stp [10, 13, 15, 20]) = 2 := by decide +kernel
  have e4 : wid (rs [10, 13, 15, 20]) = 2 := by decide +kernel
  have e5 : pack (rs [10, 13, 15, 20]) 2 = [49] := by decide +kernel
  have e6 : zi 2 = [4] := by
    show zu 4 = [4]
    unfold zu; rw [hi_zero' (by omega)]; rfl
  unfold enc encT
  rw [e1, e2, e3, e4, e5, if_neg (by simp)]
  have e7 : zi ((2 : Nat) : Int) = [4] := e6
  rw [e6, e7]; rfl
theorem str_alive : (⟨#[8, 20, 4, 4, 49]⟩ : ByteArray) = strOf [8, 20, 4, 4, 49] := rfl
set_option maxRecDepth 100000 in
theorem dalive_c (w : World) : FnC Try.prog 27 #[] w fun v w' => v = .bool true ∧ Later w w' := by
  obtain ⟨a1, a2, a3⟩ := alive_enc
  refine enter27 ?_
  unfold B27
  repeat' (first | (simp (disch := omega) only [push_cast, ↓reduceIte, Nat.reduceEqDiff, Int.reduceToNat, Nat.reducePow, Int.reducePow, Int.reduceNeg, Nat.reduceMul, Int.reduceMul, Int.reduceAdd, Int.reduceSub, Nat.reduceAdd, Nat.reduceSub, Nat.reduceLeDiff, Int.reduceLT, Int.reduceLE, Int.reduceEq, Int.reduceMod, Int.reduceDiv, reduceCtorEq, not_true_eq_false, not_false_eq_true]) | refine vIfE_of (fun _ => ?_) (fun _ => ?_) | refine vIfD_of (fun _ => ?_) (fun _ => ?_) | refine vIfQ_of (fun _ => ?_) (fun _ => ?_) | refine vIfV_of (fun _ => ?_) (fun _ => ?_) | refine And.intro (by omega) ?_ | refine drawn_q ?_ | fail)
  have hy : Sl (w.alloc (.cells #[.int .i64 10, .int .i64 13, .int .i64 15, .int .i64 20] 3)) (.slice (some ⟨w.heap.size, 0, none⟩) 4 4) (([10, 13, 15, 20] : List Int).map i64v) :=
    Sl.of_blk (xs := [.int .i64 10, .int .i64 13, .int .i64 15, .int .i64 20]) (Blk.new w _ _) rfl (by unfold maxLen; omega)
  have l1 := later_alloc w (.cells #[.int .i64 10, .int .i64 13, .int .i64 15, .int .i64 20] 3)
  generalize w.alloc (.cells #[.int .i64 10, .int .i64 13, .int .i64 15, .int .i64 20] 3) = w1 at *
  have hok : Ok [10, 13, 15, 20] := by
    intro x hx
    simp only [List.mem_cons, List.not_mem_nil, or_false] at hx
    omega
  refine (encode_c _ [10, 13, 15, 20] w1 hy hok).mono ?_
  rintro _ w2 ⟨⟨x, rfl, hx⟩, hl2⟩
  have hE : encE [10, 13, 15, 20] = 0 := by unfold encE; rw [if_neg (by simp)]
  have hEL : encL [10, 13, 15, 20] = [8, 20, 4, 4, 49] := by unfold encL; rw [if_pos hE, a1]
  rw [hE]
  rw [hEL] at hx
  obtain ⟨ox, cx, hvx⟩ := hx.slice
  subst hvx
  have hxs := hx.sl
  repeat' (first | (simp (disch := omega) only [push_cast, ↓reduceIte, Nat.reduceEqDiff, Int.reduceToNat, Nat.reducePow, Int.reducePow, Int.reduceNeg, Nat.reduceMul, Int.reduceMul, Int.reduceAdd, Int.reduceSub, Nat.reduceAdd, Nat.reduceSub, Nat.reduceLeDiff, Int.reduceLT, Int.reduceLE, Int.reduceEq, Int.reduceMod, Int.reduceDiv, reduceCtorEq, not_true_eq_false, not_false_eq_true]) | refine vIfE_of (fun _ => ?_) (fun _ => ?_) | refine vIfD_of (fun _ => ?_) (fun _ => ?_) | refine vIfQ_of (fun _ => ?_) (fun _ => ?_) | refine vIfV_of (fun _ => ?_) (fun _ => ?_) | refine And.intro (by omega) ?_ | refine drawn_q ?_ | fail)
  refine (decode_c _ _ w2 hxs (by simp)).mono ?_
  rintro _ w3 ⟨⟨y, l, e, rfl, hD, hy3⟩, hl3⟩
  obtain ⟨rfl, rfl⟩ := decE_one hD (.inl ⟨⟨hok, by simp, a1⟩, rfl⟩)
  obtain ⟨oy, cy, hvy⟩ := hy3.slice
  subst hvy
  have hys := hy3.sl
  obtain ⟨ay, hay⟩ := hys.some (show 0 < ([10, 13, 15, 20] : List Int).length by simp)
  subst hay
  have c3 : w3.cell? (ay.add 3) = some (.int .i64 20) := hys.atI (i := 3) (by simp)
  repeat' (first | (simp (disch := omega) only [push_cast, ↓reduceIte, Nat.reduceEqDiff, Int.reduceToNat, Nat.reducePow, Int.reducePow, Int.reduceNeg, Nat.reduceMul, Int.reduceMul, Int.reduceAdd, Int.reduceSub, Nat.reduceAdd, Nat.reduceSub, Nat.reduceLeDiff, Int.reduceLT, Int.reduceLE, Int.reduceEq, Int.reduceMod, Int.reduceDiv, reduceCtorEq, not_true_eq_false, not_false_eq_true, str_alive]) | refine vIfE_of (fun _ => ?_) (fun _ => ?_) | refine vIfD_of (fun _ => ?_) (fun _ => ?_) | refine vIfQ_of (fun _ => ?_) (fun _ => ?_) | refine vIfV_of (fun _ => ?_) (fun _ => ?_) | refine And.intro (by omega) ?_ | refine drawn_q ?_ | fail)
  refine vConv_bytes Try.underlying36 Try.underlying9 Try.underlying5 (hxs.later hl3) ?_
  have e4 : (([10, 13, 15, 20] : List Int).length : Int) = 4 := rfl
  repeat' (first | (simp (disch := omega) only [push_cast, ↓reduceIte, Nat.reduceEqDiff, Int.reduceToNat, Nat.reducePow, Int.reducePow, Int.reduceNeg, Nat.reduceMul, Int.reduceMul, Int.reduceAdd, Int.reduceSub, Nat.reduceAdd, Nat.reduceSub, Nat.reduceLeDiff, Int.reduceLT, Int.reduceLE, Int.reduceEq, Int.reduceMod, Int.reduceDiv, reduceCtorEq, not_true_eq_false, not_false_eq_true, str_alive, c3, e4]) | refine vIfE_of (fun _ => ?_) (fun _ => ?_) | refine vIfD_of (fun _ => ?_) (fun _ => ?_) | refine vIfQ_of (fun _ => ?_) (fun _ => ?_) | refine vIfV_of (fun _ => ?_) (fun _ => ?_) | refine And.intro (by omega) ?_ | refine drawn_q ?_ | fail)
  refine (dsorted_c _ _ w3 hys).mono ?_
  rintro _ w4 ⟨rfl, hl4⟩
  rw [decide_eq_true a2]
  repeat' (first | (simp (disch := omega) only [push_cast, ↓reduceIte, Nat.reduceEqDiff, Int.reduceToNat, Nat.reducePow, Int.reducePow, Int.reduceNeg, Nat.reduceMul, Int.reduceMul, Int.reduceAdd, Int.reduceSub, Nat.reduceAdd, Nat.reduceSub, Nat.reduceLeDiff, Int.reduceLT, Int.reduceLE, Int.reduceEq, Int.reduceMod, Int.reduceDiv, reduceCtorEq, not_true_eq_false, not_false_eq_true]) | refine vIfE_of (fun _ => ?_) (fun _ => ?_) | refine vIfD_of (fun _ => ?_) (fun _ => ?_) | refine vIfQ_of (fun _ => ?_) (fun _ => ?_) | refine vIfV_of (fun _ => ?_) (fun _ => ?_) | refine And.intro (by omega) ?_ | refine drawn_q ?_ | fail)
  have hz : Sl (w4.alloc (.cells #[.int .i64 2, .int .i64 1] 3)) (.slice (some ⟨w4.heap.size, 0, none⟩) 2 2) (([2, 1] : List Int).map i64v) :=
    Sl.of_blk (xs := [.int .i64 2, .int .i64 1]) (Blk.new w4 _ _) rfl (by unfold maxLen; omega)
  have l5 := later_alloc w4 (.cells #[.int .i64 2, .int .i64 1] 3)
  generalize w4.alloc (.cells #[.int .i64 2, .int .i64 1] 3) = w5 at *
  refine (dsorted_c _ _ w5 hz).mono ?_
  rintro _ w6 ⟨rfl, hl6⟩
  rw [decide_eq_false a3]
  repeat' (first | (simp (disch := omega) only [push_cast, ↓reduceIte, Nat.reduceEqDiff, Int.reduceToNat, Nat.reducePow, Int.reducePow, Int.reduceNeg, Nat.reduceMul, Int.reduceMul, Int.reduceAdd, Int.reduceSub, Nat.reduceAdd, Nat.reduceSub, Nat.reduceLeDiff, Int.reduceLT, Int.reduceLE, Int.reduceEq, Int.reduceMod, Int.reduceDiv, reduceCtorEq, not_true_eq_false, not_false_eq_true]) | refine vIfE_of (fun _ => ?_) (fun _ => ?_) | refine vIfD_of (fun _ => ?_) (fun _ => ?_) | refine vIfQ_of (fun _ => ?_) (fun _ => ?_) | refine vIfV_of (fun _ => ?_) (fun _ => ?_) | refine And.intro (by omega) ?_ | refine drawn_q ?_ | fail)
  exact ((((l1.trans hl2).trans hl3).trans hl4).trans l5).trans hl6
end Go.Proofs.Ytdfdohajjgjbdaa
