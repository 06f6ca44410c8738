/- The trial that all laws of runs begin with. -/
import Derived.Test.YtfeocfcclmndoaaRun6
import Derived.Test.YtfeocfcclmndoaaRun7
import Derived.Test.YtfeocfcclmndoaaRun9
import Derived.Test.YtfeocfcclmndoaaCodesRL
set_option linter.unusedSimpArgs false
namespace Go.Proofs.Ytfeocfcclmndoaa
open Go.Vc Go.Run
set_option maxRecDepth 100000
theorem alive_set {s : S} (h1 : Rt (-1) s) (h2 : ∀ x, has s x = true ↔ x ∈ ([5, 3, 4, 9, 3] : List Int)) : s = [(3, 6), (9, 10)] := by
  refine ext (lb := -1) h1 (by decide) fun x => bool_eq ?_
  rw [h2]
  simp [has]; omega
theorem alive_and {u : S} (h : Is opA [(3, 6), (9, 10)] (upto 4) u) : u = [(3, 4)] := by
  refine ext (lb := -1) h.1 (by decide) fun x => ?_
  rw [h.2, upto_has]
  unfold opA
  apply bool_eq
  simp [has]; omega
/-- A literal of one stretch, of two. -/
theorem lit1 (w : World) (p q : Int) : PairS (w.alloc (.cells #[.int .i64 p, .int .i64 q] 63)) (.slice (some ⟨w.heap.size, 0, none⟩) 1 1) [(p, q)] :=
  SlN.of_own (own_lit w [.int .i64 p, .int .i64 q] 63 2 1 rfl (by unfold maxLen; omega) (Nat.le_refl _))
theorem lit2 (w : World) (p q p' q' : Int) : PairS (w.alloc (.cells #[.int .i64 p, .int .i64 q, .int .i64 p', .int .i64 q'] 63)) (.slice (some ⟨w.heap.size, 0, none⟩) 2 2) [(p, q), (p', q')] :=
  SlN.of_own (own_lit w [.int .i64 p, .int .i64 q, .int .i64 p', .int .i64 q'] 63 2 2 rfl (by unfold maxLen; omega) (Nat.le_refl _))
set_option maxHeartbeats 1000000 in
theorem ralive_c (w : World) : FnC Try.prog 30 #[] w fun v w' => v = .bool true ∧ Later w w' := by
  refine enter30 ?_
  unfold B30
  repeat' (first | (simp (disch := omega) only [push_cast, ↓reduceIte, Nat.reduceEqDiff, Int.reduceToNat, Nat.reducePow, Int.reducePow, Int.reduceNeg, Nat.reduceMul, Int.reduceMul, Int.reduceAdd, Int.reduceSub, Nat.reduceAdd, Nat.reduceSub, Nat.reduceLeDiff, Int.reduceLT, Int.reduceLE, Int.reduceEq, Int.reduceMod, Int.reduceDiv, reduceCtorEq, not_true_eq_false, not_false_eq_true]) | refine vIfE_of (fun _ => ?_) (fun _ => ?_) | refine vIfD_of (fun _ => ?_) (fun _ => ?_) | refine vIfQ_of (fun _ => ?_) (fun _ => ?_) | refine vIfV_of (fun _ => ?_) (fun _ => ?_) | refine And.intro (by omega) ?_ | refine drawn_q ?_ | fail)
  have hy : Sl (w.alloc (.cells #[.int .i64 5, .int .i64 3, .int .i64 4, .int .i64 9, .int .i64 3] 3)) (.slice (some ⟨w.heap.size, 0, none⟩) 5 5) (([5, 3, 4, 9, 3] : List Int).map i64v) :=
    Sl.of_blk (xs := [.int .i64 5, .int .i64 3, .int .i64 4, .int .i64 9, .int .i64 3]) (Blk.new w _ _) rfl (by unfold maxLen; omega)
  have l1 := later_alloc w (.cells #[.int .i64 5, .int .i64 3, .int .i64 4, .int .i64 9, .int .i64 3] 3)
  generalize w.alloc (.cells #[.int .i64 5, .int .i64 3, .int .i64 4, .int .i64 9, .int .i64 3] 3) = w1 at *
  refine (of_c _ [5, 3, 4, 9, 3] w1 hy (by simp)).mono ?_
  rintro _ w2 ⟨⟨x, s, rfl, hx, hs⟩, l2⟩
  have hE : OfE [5, 3, 4, 9, 3] = 0 := by decide
  rcases hs with ⟨h, _⟩ | ⟨_, h1, h2, _⟩
  · exact absurd hE h
  have hsA := alive_set h1 h2
  subst hsA
  have hxs := hx.s
  obtain ⟨ox, cx, hvx⟩ := slice_of hxs
  subst hvx
  rw [hE]
  have hrt : Rt (-1) [(3, 6), (9, 10)] := by decide
  repeat' (first | (simp (disch := omega) only [push_cast, ↓reduceIte, Nat.reduceEqDiff, Int.reduceToNat, Nat.reducePow, Int.reducePow, Int.reduceNeg, Nat.reduceMul, Int.reduceMul, Int.reduceAdd, Int.reduceSub, Nat.reduceAdd, Nat.reduceSub, Nat.reduceLeDiff, Int.reduceLT, Int.reduceLE, Int.reduceEq, Int.reduceMod, Int.reduceDiv, reduceCtorEq, not_true_eq_false, not_false_eq_true]) | refine vIfE_of (fun _ => ?_) (fun _ => ?_) | refine vIfD_of (fun _ => ?_) (fun _ => ?_) | refine vIfQ_of (fun _ => ?_) (fun _ => ?_) | refine vIfV_of (fun _ => ?_) (fun _ => ?_) | refine And.intro (by omega) ?_ | refine drawn_q ?_ | fail)
  refine (select_c _ _ 3 w2 hxs hrt (by omega)).mono ?_
  rintro _ w3 ⟨rfl, l3⟩
  have e3 : tupK2 (slc [(3, 6), (9, 10)] 3) = .tuple #[.int .i64 9, .bool true] := rfl
  rw [e3]
  repeat' (first | (simp (disch := omega) only [push_cast, ↓reduceIte, Nat.reduceEqDiff, Int.reduceToNat, Nat.reducePow, Int.reducePow, Int.reduceNeg, Nat.reduceMul, Int.reduceMul, Int.reduceAdd, Int.reduceSub, Nat.reduceAdd, Nat.reduceSub, Nat.reduceLeDiff, Int.reduceLT, Int.reduceLE, Int.reduceEq, Int.reduceMod, Int.reduceDiv, reduceCtorEq, not_true_eq_false, not_false_eq_true]) | refine vIfE_of (fun _ => ?_) (fun _ => ?_) | refine vIfD_of (fun _ => ?_) (fun _ => ?_) | refine vIfQ_of (fun _ => ?_) (fun _ => ?_) | refine vIfV_of (fun _ => ?_) (fun _ => ?_) | refine And.intro (by omega) ?_ | refine drawn_q ?_ | fail)
  have hl4 := lit2 w3 3 6 9 10
  have l4 := later_alloc w3 (.cells #[.int .i64 3, .int .i64 6, .int .i64 9, .int .i64 10] 63)
  generalize w3.alloc (.cells #[.int .i64 3, .int .i64 6, .int .i64 9, .int .i64 10] 63) = w4 at *
  refine (psame_c _ _ _ _ w4 (hxs.later (l3.trans l4)) hl4).mono ?_
  rintro _ w5 ⟨rfl, l5⟩
  have l25 := (l3.trans l4).trans l5
  repeat' (first | (simp (disch := omega) only [push_cast, ↓reduceIte, Nat.reduceEqDiff, Int.reduceToNat, Nat.reducePow, Int.reducePow, Int.reduceNeg, Nat.reduceMul, Int.reduceMul, Int.reduceAdd, Int.reduceSub, Nat.reduceAdd, Nat.reduceSub, Nat.reduceLeDiff, Int.reduceLT, Int.reduceLE, Int.reduceEq, Int.reduceMod, Int.reduceDiv, reduceCtorEq, not_true_eq_false, not_false_eq_true, decide_true]) | refine vIfE_of (fun _ => ?_) (fun _ => ?_) | refine vIfD_of (fun _ => ?_) (fun _ => ?_) | refine vIfQ_of (fun _ => ?_) (fun _ => ?_) | refine vIfV_of (fun _ => ?_) (fun _ => ?_) | refine And.intro (by omega) ?_ | refine drawn_q ?_ | fail)
  refine (rank_c _ _ 5 w5 (hxs.later l25) hrt (by omega)).mono ?_
  rintro _ w6 ⟨rfl, l6⟩
  have e6 : rk [(3, 6), (9, 10)] 5 = 2 := by decide
  rw [e6]
  have l26 := l25.trans l6
  repeat' (first | (simp (disch := omega) only [push_cast, ↓reduceIte, Nat.reduceEqDiff, Int.reduceToNat, Nat.reducePow, Int.reducePow, Int.reduceNeg, Nat.reduceMul, Int.reduceMul, Int.reduceAdd, Int.reduceSub, Nat.reduceAdd, Nat.reduceSub, Nat.reduceLeDiff, Int.reduceLT, Int.reduceLE, Int.reduceEq, Int.reduceMod, Int.reduceDiv, reduceCtorEq, not_true_eq_false, not_false_eq_true]) | refine vIfE_of (fun _ => ?_) (fun _ => ?_) | refine vIfD_of (fun _ => ?_) (fun _ => ?_) | refine vIfQ_of (fun _ => ?_) (fun _ => ?_) | refine vIfV_of (fun _ => ?_) (fun _ => ?_) | refine And.intro (by omega) ?_ | refine drawn_q ?_ | fail)
  refine (upto_c 4 w6 (by omega)).mono ?_
  rintro y w7 ⟨hy7, l7⟩
  repeat' (first | (simp (disch := omega) only [push_cast, ↓reduceIte, Nat.reduceEqDiff, Int.reduceToNat, Nat.reducePow, Int.reducePow, Int.reduceNeg, Nat.reduceMul, Int.reduceMul, Int.reduceAdd, Int.reduceSub, Nat.reduceAdd, Nat.reduceSub, Nat.reduceLeDiff, Int.reduceLT, Int.reduceLE, Int.reduceEq, Int.reduceMod, Int.reduceDiv, reduceCtorEq, not_true_eq_false, not_false_eq_true]) | refine vIfE_of (fun _ => ?_) (fun _ => ?_) | refine vIfD_of (fun _ => ?_) (fun _ => ?_) | refine vIfQ_of (fun _ => ?_) (fun _ => ?_) | refine vIfV_of (fun _ => ?_) (fun _ => ?_) | refine And.intro (by omega) ?_ | refine drawn_q ?_ | fail)
  refine (and_c _ _ _ _ w7 (hxs.later (l26.trans l7)) hy7.s hrt (upto_rt 4)).mono ?_
  rintro z w8 ⟨⟨u, hz, hu⟩, l8⟩
  have hu' := alive_and hu
  subst hu'
  repeat' (first | (simp (disch := omega) only [push_cast, ↓reduceIte, Nat.reduceEqDiff, Int.reduceToNat, Nat.reducePow, Int.reducePow, Int.reduceNeg, Nat.reduceMul, Int.reduceMul, Int.reduceAdd, Int.reduceSub, Nat.reduceAdd, Nat.reduceSub, Nat.reduceLeDiff, Int.reduceLT, Int.reduceLE, Int.reduceEq, Int.reduceMod, Int.reduceDiv, reduceCtorEq, not_true_eq_false, not_false_eq_true]) | refine vIfE_of (fun _ => ?_) (fun _ => ?_) | refine vIfD_of (fun _ => ?_) (fun _ => ?_) | refine vIfQ_of (fun _ => ?_) (fun _ => ?_) | refine vIfV_of (fun _ => ?_) (fun _ => ?_) | refine And.intro (by omega) ?_ | refine drawn_q ?_ | fail)
  have hl9 := lit1 w8 3 4
  have l9 := later_alloc w8 (.cells #[.int .i64 3, .int .i64 4] 63)
  generalize w8.alloc (.cells #[.int .i64 3, .int .i64 4] 63) = w9 at *
  refine (psame_c _ _ _ _ w9 (hz.s.later l9) hl9).mono ?_
  rintro _ w10 ⟨rfl, l10⟩
  repeat' (first | (simp (disch := omega) only [push_cast, ↓reduceIte, Nat.reduceEqDiff, Int.reduceToNat, Nat.reducePow, Int.reducePow, Int.reduceNeg, Nat.reduceMul, Int.reduceMul, Int.reduceAdd, Int.reduceSub, Nat.reduceAdd, Nat.reduceSub, Nat.reduceLeDiff, Int.reduceLT, Int.reduceLE, Int.reduceEq, Int.reduceMod, Int.reduceDiv, reduceCtorEq, not_true_eq_false, not_false_eq_true, decide_true]) | refine vIfE_of (fun _ => ?_) (fun _ => ?_) | refine vIfD_of (fun _ => ?_) (fun _ => ?_) | refine vIfQ_of (fun _ => ?_) (fun _ => ?_) | refine vIfV_of (fun _ => ?_) (fun _ => ?_) | refine And.intro (by omega) ?_ | refine drawn_q ?_ | fail)
  exact (l1.trans l2).trans (((l26.trans l7).trans l8).trans (l9.trans l10))
end Go.Proofs.Ytfeocfcclmndoaa
