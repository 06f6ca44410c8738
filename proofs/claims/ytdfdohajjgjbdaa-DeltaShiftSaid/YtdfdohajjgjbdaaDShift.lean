/- DeltaShift holds for every input: numbers that are all moved have as many bytes but for the first one's; turned about they are sorted just if they fall. -/
import Derived.Test.YtdfdohajjgjbdaaRows
import Derived.Test.YtdfdohajjgjbdaaCodesDL
import Derived.Test.YtdfdohajjgjbdaaMem7
import Derived.Test.YtdfdohajjgjbdaaDelQ
import Derived.Test.YtdfdohajjgjbdaaRowI
import Derived.Test.YtdfdohajjgjbdaaDel7
set_option linter.unusedSimpArgs false
namespace Go.Proofs.Ytdfdohajjgjbdaa.deltaShift
open Go.Vc Go.Del Go.Zig Go.Nib Go.ChangeShapes Go.WideShapes Go.ChangeAt Go.RowKit
/-- Do the first i fall? -/
def falB (l : List Int) : Nat → Bool
  | 0 => true
  | i + 1 => falB l i && (decide (i = 0) || decide (at_ l i ≤ at_ l (i - 1)))
theorem falB_iff (l : List Int) (n : Nat) : falB l n = true ↔ ∀ j, j + 1 < n → at_ l (j + 1) ≤ at_ l j := by
  induction n with
  | zero => simp [falB]
  | succ n ih =>
    unfold falB
    rw [Bool.and_eq_true, ih]
    constructor
    · rintro ⟨h1, h2⟩ j hj
      by_cases e : j + 1 = n
      · subst e
        simpa using h2
      · exact h1 j (by omega)
    · intro h
      refine ⟨fun j hj => h j (by omega), ?_⟩
      cases n with
      | zero => rfl
      | succ n => simpa using h n (by omega)
theorem srt_rev (l : List Int) : Srt l.reverse ↔ falB l l.length = true := by
  rw [falB_iff]
  unfold Srt
  rw [List.length_reverse]
  constructor
  · intro h j hj
    have := h (l.length - 1 - (j + 1)) (by omega)
    rw [rev_at l _ (by omega), rev_at l _ (by omega)] at this
    have e1 : l.length - 1 - (l.length - 1 - (j + 1)) = j + 1 := by omega
    have e2 : l.length - 1 - (l.length - 1 - (j + 1) + 1) = j := by omega
    rwa [e1, e2] at this
  · intro h j hj
    rw [rev_at l _ (by omega), rev_at l _ (by omega)]
    have := h (l.length - 1 - (j + 1)) (by omega)
    have e1 : l.length - 1 - (j + 1) + 1 = l.length - 1 - j := by omega
    rwa [e1] at this
def revN (l : List Int) (i : Nat) : List Int := (List.range i).map fun j => at_ l (l.length - 1 - j)
theorem revN_succ (l : List Int) (i : Nat) : revN l (i + 1) = revN l i ++ [at_ l (l.length - 1 - i)] := by simp [revN, List.range_succ]
theorem revN_len (l : List Int) (i : Nat) : (revN l i).length = i := by simp [revN]
theorem revN_all (l : List Int) : revN l l.length = l.reverse := by
  apply List.ext_getElem
  · simp [revN]
  · intro i h1 h2
    simp only [revN, List.length_map, List.length_range] at h1
    simp only [revN, List.getElem_map, List.getElem_range, List.getElem_reverse]
    unfold at_
    rw [List.getD_eq_getElem?_getD, List.getElem?_eq_getElem (by omega)]; rfl
def mvN (y : Int) (l : List Int) (i : Nat) : List Int := (List.range i).map fun j => wr (at_ l j + y)
theorem mvN_succ (y : Int) (l : List Int) (i : Nat) : mvN y l (i + 1) = mvN y l i ++ [wr (at_ l i + y)] := by simp [mvN, List.range_succ]
theorem mvN_len (y : Int) (l : List Int) (i : Nat) : (mvN y l i).length = i := by simp [mvN]
theorem mvN_all (y : Int) (l : List Int) : mvN y l l.length = mv y l := by
  apply List.ext_getElem
  · simp [mvN, mv]
  · intro i h1 h2
    simp only [mvN, List.length_map, List.length_range] at h1
    simp only [mvN, mv, List.getElem_map, List.getElem_range]
    unfold at_
    rw [List.getD_eq_getElem?_getD, List.getElem?_eq_getElem h1]; rfl
set_option maxRecDepth 100000 in
theorem law_c (v : Value) (l : List Int) (y : Int) (w : World) (h : Sl w v (l.map i64v)) (hok : Ok l) (hy : -9223372036854775808 ≤ y ∧ y ≤ 9223372036854775807) :
    FnC Try.prog 12 #[v, .int .i64 y] w fun v w' => v = .bool true ∧ Later w w' := by
  have hsl := h
  obtain ⟨o, c, rfl, g1, g2, h, g3⟩ := h.openM
  refine enter12 _ _ ?_
  unfold B12
  by_cases hlen : 300 < l.length
  · repeat' (first | (simp (disch := omega) only [push_cast, ↓reduceIte, Nat.reduceEqDiff, Int.reduceToNat, Nat.reducePow, Int.reducePow, Int.reduceNeg, Nat.reduceMul, Int.reduceMul, Int.reduceAdd, Int.reduceSub, Nat.reduceAdd, Nat.reduceSub, Nat.reduceLeDiff, Int.reduceLT, Int.reduceLE, Int.reduceEq, Int.reduceMod, Int.reduceDiv, reduceCtorEq, not_true_eq_false, not_false_eq_true]) | refine vIfE_of (fun _ => ?_) (fun _ => ?_) | refine vIfD_of (fun _ => ?_) (fun _ => ?_) | refine vIfQ_of (fun _ => ?_) (fun _ => ?_) | refine vIfV_of (fun _ => ?_) (fun _ => ?_) | refine And.intro (by omega) ?_ | refine drawn_q ?_ | fail)
    refine (dalive_c w).mono ?_
    rintro _ w1 ⟨rfl, hl1⟩
    repeat' (first | (simp (disch := omega) only [push_cast, ↓reduceIte, Nat.reduceEqDiff, Int.reduceToNat, Nat.reducePow, Int.reducePow, Int.reduceNeg, Nat.reduceMul, Int.reduceMul, Int.reduceAdd, Int.reduceSub, Nat.reduceAdd, Nat.reduceSub, Nat.reduceLeDiff, Int.reduceLT, Int.reduceLE, Int.reduceEq, Int.reduceMod, Int.reduceDiv, reduceCtorEq, not_true_eq_false, not_false_eq_true]) | refine vIfE_of (fun _ => ?_) (fun _ => ?_) | refine vIfD_of (fun _ => ?_) (fun _ => ?_) | refine vIfQ_of (fun _ => ?_) (fun _ => ?_) | refine vIfV_of (fun _ => ?_) (fun _ => ?_) | refine And.intro (by omega) ?_ | refine drawn_q ?_ | fail)
    exact hl1
  by_cases hz : l.length = 0
  · repeat' (first | (simp (disch := omega) only [push_cast, ↓reduceIte, Nat.reduceEqDiff, Int.reduceToNat, Nat.reducePow, Int.reducePow, Int.reduceNeg, Nat.reduceMul, Int.reduceMul, Int.reduceAdd, Int.reduceSub, Nat.reduceAdd, Nat.reduceSub, Nat.reduceLeDiff, Int.reduceLT, Int.reduceLE, Int.reduceEq, Int.reduceMod, Int.reduceDiv, reduceCtorEq, not_true_eq_false, not_false_eq_true]) | refine vIfE_of (fun _ => ?_) (fun _ => ?_) | refine vIfD_of (fun _ => ?_) (fun _ => ?_) | refine vIfQ_of (fun _ => ?_) (fun _ => ?_) | refine vIfV_of (fun _ => ?_) (fun _ => ?_) | refine And.intro (by omega) ?_ | refine drawn_q ?_ | fail)
    refine (dalive_c w).mono ?_
    rintro _ w1 ⟨rfl, hl1⟩
    repeat' (first | (simp (disch := omega) only [push_cast, ↓reduceIte, Nat.reduceEqDiff, Int.reduceToNat, Nat.reducePow, Int.reducePow, Int.reduceNeg, Nat.reduceMul, Int.reduceMul, Int.reduceAdd, Int.reduceSub, Nat.reduceAdd, Nat.reduceSub, Nat.reduceLeDiff, Int.reduceLT, Int.reduceLE, Int.reduceEq, Int.reduceMod, Int.reduceDiv, reduceCtorEq, not_true_eq_false, not_false_eq_true]) | refine vIfE_of (fun _ => ?_) (fun _ => ?_) | refine vIfD_of (fun _ => ?_) (fun _ => ?_) | refine vIfQ_of (fun _ => ?_) (fun _ => ?_) | refine vIfV_of (fun _ => ?_) (fun _ => ?_) | refine And.intro (by omega) ?_ | refine drawn_q ?_ | fail)
    exact hl1
  repeat' (first | (simp (disch := omega) only [push_cast, ↓reduceIte, Nat.reduceEqDiff, Int.reduceToNat, Nat.reducePow, Int.reducePow, Int.reduceNeg, Nat.reduceMul, Int.reduceMul, Int.reduceAdd, Int.reduceSub, Nat.reduceAdd, Nat.reduceSub, Nat.reduceLeDiff, Int.reduceLT, Int.reduceLE, Int.reduceEq, Int.reduceMod, Int.reduceDiv, reduceCtorEq, not_true_eq_false, not_false_eq_true]) | refine vIfE_of (fun _ => ?_) (fun _ => ?_) | refine vIfD_of (fun _ => ?_) (fun _ => ?_) | refine vIfQ_of (fun _ => ?_) (fun _ => ?_) | refine vIfV_of (fun _ => ?_) (fun _ => ?_) | refine And.intro (by omega) ?_ | refine drawn_q ?_ | fail)
  refine vc_loop W12_0 (fun p : Nat × Value × Value => [(5, p.2.1), (6, p.2.2), (7, .bool (falB l p.1)), (8, .int .i64 (p.1 : Int))])
    (fun p w' => p.1 ≤ l.length ∧ Later w w' ∧ OwnI w' w.heap.size 3 p.2.1 (mvN y l p.1) ∧ OwnI w' w.heap.size 3 p.2.2 (revN l p.1) ∧ Apt p.2.1 p.2.2) (fun p => l.length - p.1) (0, .slice none 0 0, .slice none 0 0) (by decide) ?_ ?_ ?_
  · simp (disch := omega) only [push_cast, ↓reduceIte, Nat.reduceEqDiff, Int.reduceToNat, Nat.reducePow, Int.reducePow, Int.reduceNeg, Nat.reduceMul, Int.reduceMul, Int.reduceAdd, Int.reduceSub, Nat.reduceAdd, Nat.reduceSub, Nat.reduceLeDiff, Int.reduceLT, Int.reduceLE, Int.reduceEq, Int.reduceMod, Int.reduceDiv, reduceCtorEq, not_true_eq_false, not_false_eq_true]
    exact rfl
  · exact ⟨by omega, Later.refl _, own_nil _ _ _ _, own_nil _ _ _ _, Apt.nil _⟩
  rintro ⟨i, v1, v2⟩ uu w1 ⟨hi, hl1, ho1, ho2, hap⟩
  dsimp only at hi ho1 ho2 hap
  have hos1 := ho1.sl
  have hos2 := ho2.sl
  obtain ⟨o1, c1, rfl⟩ := ho1.slice
  obtain ⟨o2, c2, rfl⟩ := ho2.slice
  have l1 := mvN_len y l i
  have l2 := revN_len l i
  by_cases hlt : i < l.length
  · unfold OwnI at ho1 ho2
    rw [l1] at ho1 hap ⊢
    rw [l2] at ho2 hap ⊢
    obtain ⟨a, rfl⟩ := h.some hlt
    have cr := (h.later hl1).atI hlt
    have hstep : IntKind.i64.wrap (at_ l i + y) = wr (at_ l i + y) := wrap_wr _
    repeat' (first | (simp (disch := omega) only [push_cast, ↓reduceIte, Nat.reduceEqDiff, Int.reduceToNat, Nat.reducePow, Int.reducePow, Int.reduceNeg, Nat.reduceMul, Int.reduceMul, Int.reduceAdd, Int.reduceSub, Nat.reduceAdd, Nat.reduceSub, Nat.reduceLeDiff, Int.reduceLT, Int.reduceLE, Int.reduceEq, Int.reduceMod, Int.reduceDiv, reduceCtorEq, not_true_eq_false, not_false_eq_true, cr, hstep]) | refine vIfE_of (fun _ => ?_) (fun _ => ?_) | refine vIfD_of (fun _ => ?_) (fun _ => ?_) | refine vIfQ_of (fun _ => ?_) (fun _ => ?_) | refine vIfV_of (fun _ => ?_) (fun _ => ?_) | refine And.intro (by omega) ?_ | refine drawn_q ?_ | fail)
    refine vAppend_at (n := i) (m := 1) Try.underlying35 ti3 rfl (by decide) (own_alloc ho1 _) (Sl.one w1 _ _) (by simp; rfl) (by unfold maxLen; omega) (by omega) (by have := hl1.size; simp; omega) ?_
    intro v1' w2 h1 hg1 hb1
    have hl2 := (hl1.alloc _).appended (own_alloc ho1 _) (Nat.le_refl _) hg1
    have h2 := own_apt (own_alloc ho2 _) hg1 hap
    have hap2 := hap.next (own_alloc ho2 _) hb1
    have hs1 : OwnI w2 w.heap.size 3 v1' (mvN y l i ++ [wr (at_ l i + y)]) := by unfold OwnI; rw [List.length_append, List.map_append, l1]; exact h1
    rw [← mvN_succ] at hs1
    obtain ⟨o1', c1', rfl⟩ := hs1.slice
    rw [mvN_len] at hap2 h1 ⊢
    have cr2 := (h.later hl2).atI (i := l.length - 1 - i) (by omega)
    have e2 : ((l.length : Int) - 1 - (i : Int)).toNat = l.length - 1 - i := by omega
    repeat' (first | (simp (disch := omega) only [push_cast, ↓reduceIte, Nat.reduceEqDiff, Int.reduceToNat, Nat.reducePow, Int.reducePow, Int.reduceNeg, Nat.reduceMul, Int.reduceMul, Int.reduceAdd, Int.reduceSub, Nat.reduceAdd, Nat.reduceSub, Nat.reduceLeDiff, Int.reduceLT, Int.reduceLE, Int.reduceEq, Int.reduceMod, Int.reduceDiv, reduceCtorEq, not_true_eq_false, not_false_eq_true, e2, cr2]) | refine vIfE_of (fun _ => ?_) (fun _ => ?_) | refine vIfD_of (fun _ => ?_) (fun _ => ?_) | refine vIfQ_of (fun _ => ?_) (fun _ => ?_) | refine vIfV_of (fun _ => ?_) (fun _ => ?_) | refine And.intro (by omega) ?_ | refine drawn_q ?_ | fail)
    refine vAppend_at (n := i) (m := 1) Try.underlying35 ti3 rfl (by decide) (own_alloc h2 _) (Sl.one w2 _ _) (by simp; rfl) (by unfold maxLen; omega) (by omega) (by have := hl2.size; simp; omega) ?_
    intro v2' w3 h3 hg2 hb2
    have hl3 := (hl2.alloc _).appended (own_alloc h2 _) (Nat.le_refl _) hg2
    have h1' := own_apt (own_alloc h1 _) hg2 hap2.symm
    have hap3 := (hap2.symm.next (own_alloc h1 _) hb2).symm
    have hs3 : OwnI w3 w.heap.size 3 v2' (revN l i ++ [at_ l (l.length - 1 - i)]) := by unfold OwnI; rw [List.length_append, List.map_append, l2]; exact h3
    rw [← revN_succ] at hs3
    have hs1' : OwnI w3 w.heap.size 3 (.slice o1' (i + 1) c1') (mvN y l i ++ [wr (at_ l i + y)]) := by unfold OwnI; rw [List.length_append, List.map_append, l1]; exact h1'
    rw [← mvN_succ] at hs1'
    have cr3 := (h.later hl3).atI hlt
    cases hfb : falB l i with
    | false =>
      have hf1 : falB l (i + 1) = false := by unfold falB; rw [hfb]; rfl
      repeat' (first | (simp (disch := omega) only [push_cast, ↓reduceIte, Nat.reduceEqDiff, Int.reduceToNat, Nat.reducePow, Int.reducePow, Int.reduceNeg, Nat.reduceMul, Int.reduceMul, Int.reduceAdd, Int.reduceSub, Nat.reduceAdd, Nat.reduceSub, Nat.reduceLeDiff, Int.reduceLT, Int.reduceLE, Int.reduceEq, Int.reduceMod, Int.reduceDiv, reduceCtorEq, not_true_eq_false, not_false_eq_true]) | refine vIfE_of (fun _ => ?_) (fun _ => ?_) | refine vIfD_of (fun _ => ?_) (fun _ => ?_) | refine vIfQ_of (fun _ => ?_) (fun _ => ?_) | refine vIfV_of (fun _ => ?_) (fun _ => ?_) | refine And.intro (by omega) ?_ | refine drawn_q ?_ | fail)
      intro w4 hl4
      repeat' (first | (simp (disch := omega) only [push_cast, ↓reduceIte, Nat.reduceEqDiff, Int.reduceToNat, Nat.reducePow, Int.reducePow, Int.reduceNeg, Nat.reduceMul, Int.reduceMul, Int.reduceAdd, Int.reduceSub, Nat.reduceAdd, Nat.reduceSub, Nat.reduceLeDiff, Int.reduceLT, Int.reduceLE, Int.reduceEq, Int.reduceMod, Int.reduceDiv, reduceCtorEq, not_true_eq_false, not_false_eq_true]) | refine vIfE_of (fun _ => ?_) (fun _ => ?_) | refine vIfD_of (fun _ => ?_) (fun _ => ?_) | refine vIfQ_of (fun _ => ?_) (fun _ => ?_) | refine vIfV_of (fun _ => ?_) (fun _ => ?_) | refine And.intro (by omega) ?_ | refine drawn_q ?_ | fail)
      refine ⟨rfl, (i + 1, _, v2'), ?_, ⟨by dsimp only; omega, hl3.trans hl4, OwnI.later hs1' hl4, OwnI.later hs3 hl4, hap3⟩, by dsimp only; omega⟩
      simp (disch := omega) only [push_cast, ↓reduceIte, Nat.reduceEqDiff, Int.reduceToNat, Nat.reducePow, Int.reducePow, Int.reduceNeg, Nat.reduceMul, Int.reduceMul, Int.reduceAdd, Int.reduceSub, Nat.reduceAdd, Nat.reduceSub, Nat.reduceLeDiff, Int.reduceLT, Int.reduceLE, Int.reduceEq, Int.reduceMod, Int.reduceDiv, reduceCtorEq, not_true_eq_false, not_false_eq_true, hf1]
    | true =>
      by_cases hi0 : i = 0
      · subst hi0
        have hf1 : falB l (0 + 1) = true := rfl
        repeat' (first | (simp (disch := omega) only [push_cast, ↓reduceIte, Nat.reduceEqDiff, Int.reduceToNat, Nat.reducePow, Int.reducePow, Int.reduceNeg, Nat.reduceMul, Int.reduceMul, Int.reduceAdd, Int.reduceSub, Nat.reduceAdd, Nat.reduceSub, Nat.reduceLeDiff, Int.reduceLT, Int.reduceLE, Int.reduceEq, Int.reduceMod, Int.reduceDiv, reduceCtorEq, not_true_eq_false, not_false_eq_true]) | refine vIfE_of (fun _ => ?_) (fun _ => ?_) | refine vIfD_of (fun _ => ?_) (fun _ => ?_) | refine vIfQ_of (fun _ => ?_) (fun _ => ?_) | refine vIfV_of (fun _ => ?_) (fun _ => ?_) | refine And.intro (by omega) ?_ | refine drawn_q ?_ | fail)
        intro w4 hl4
        repeat' (first | (simp (disch := omega) only [push_cast, ↓reduceIte, Nat.reduceEqDiff, Int.reduceToNat, Nat.reducePow, Int.reducePow, Int.reduceNeg, Nat.reduceMul, Int.reduceMul, Int.reduceAdd, Int.reduceSub, Nat.reduceAdd, Nat.reduceSub, Nat.reduceLeDiff, Int.reduceLT, Int.reduceLE, Int.reduceEq, Int.reduceMod, Int.reduceDiv, reduceCtorEq, not_true_eq_false, not_false_eq_true]) | refine vIfE_of (fun _ => ?_) (fun _ => ?_) | refine vIfD_of (fun _ => ?_) (fun _ => ?_) | refine vIfQ_of (fun _ => ?_) (fun _ => ?_) | refine vIfV_of (fun _ => ?_) (fun _ => ?_) | refine And.intro (by omega) ?_ | refine drawn_q ?_ | fail)
        refine ⟨rfl, (0 + 1, _, v2'), ?_, ⟨by dsimp only; omega, hl3.trans hl4, OwnI.later hs1' hl4, OwnI.later hs3 hl4, hap3⟩, by dsimp only; omega⟩
        simp (disch := omega) only [push_cast, ↓reduceIte, Nat.reduceEqDiff, Int.reduceToNat, Nat.reducePow, Int.reducePow, Int.reduceNeg, Nat.reduceMul, Int.reduceMul, Int.reduceAdd, Int.reduceSub, Nat.reduceAdd, Nat.reduceSub, Nat.reduceLeDiff, Int.reduceLT, Int.reduceLE, Int.reduceEq, Int.reduceMod, Int.reduceDiv, reduceCtorEq, not_true_eq_false, not_false_eq_true, hf1]
      · have cr4 := (h.later hl3).atI (i := i - 1) (by omega)
        have e4 : ((i : Int) - 1).toNat = i - 1 := by omega
        have hf1 : falB l (i + 1) = decide (at_ l i ≤ at_ l (i - 1)) := by
          conv => lhs; unfold falB
          rw [hfb]; simp [hi0]
        repeat' (first | (simp (disch := omega) only [push_cast, ↓reduceIte, Nat.reduceEqDiff, Int.reduceToNat, Nat.reducePow, Int.reducePow, Int.reduceNeg, Nat.reduceMul, Int.reduceMul, Int.reduceAdd, Int.reduceSub, Nat.reduceAdd, Nat.reduceSub, Nat.reduceLeDiff, Int.reduceLT, Int.reduceLE, Int.reduceEq, Int.reduceMod, Int.reduceDiv, reduceCtorEq, not_true_eq_false, not_false_eq_true, cr3, e4, cr4]) | refine vIfE_of (fun _ => ?_) (fun _ => ?_) | refine vIfD_of (fun _ => ?_) (fun _ => ?_) | refine vIfQ_of (fun _ => ?_) (fun _ => ?_) | refine vIfV_of (fun _ => ?_) (fun _ => ?_) | refine And.intro (by omega) ?_ | refine drawn_q ?_ | fail)
        intro w4 hl4
        repeat' (first | (simp (disch := omega) only [push_cast, ↓reduceIte, Nat.reduceEqDiff, Int.reduceToNat, Nat.reducePow, Int.reducePow, Int.reduceNeg, Nat.reduceMul, Int.reduceMul, Int.reduceAdd, Int.reduceSub, Nat.reduceAdd, Nat.reduceSub, Nat.reduceLeDiff, Int.reduceLT, Int.reduceLE, Int.reduceEq, Int.reduceMod, Int.reduceDiv, reduceCtorEq, not_true_eq_false, not_false_eq_true]) | refine vIfE_of (fun _ => ?_) (fun _ => ?_) | refine vIfD_of (fun _ => ?_) (fun _ => ?_) | refine vIfQ_of (fun _ => ?_) (fun _ => ?_) | refine vIfV_of (fun _ => ?_) (fun _ => ?_) | refine And.intro (by omega) ?_ | refine drawn_q ?_ | fail)
        refine ⟨rfl, (i + 1, _, v2'), ?_, ⟨by dsimp only; omega, hl3.trans hl4, OwnI.later hs1' hl4, OwnI.later hs3 hl4, hap3⟩, by dsimp only; omega⟩
        simp (disch := omega) only [push_cast, ↓reduceIte, Nat.reduceEqDiff, Int.reduceToNat, Nat.reducePow, Int.reducePow, Int.reduceNeg, Nat.reduceMul, Int.reduceMul, Int.reduceAdd, Int.reduceSub, Nat.reduceAdd, Nat.reduceSub, Nat.reduceLeDiff, Int.reduceLT, Int.reduceLE, Int.reduceEq, Int.reduceMod, Int.reduceDiv, reduceCtorEq, not_true_eq_false, not_false_eq_true, hf1]
  · have e : i = l.length := by omega
    subst e
    rw [mvN_all] at hos1 l1 ⊢
    rw [revN_all] at hos2 l2 ⊢
    have hmok := mv_ok y l
    have hE : ∀ m : List Int, m.length ≤ 300 → encE m = 0 ∧ encL m = enc m := by
      intro m hm
      have : encE m = 0 := by unfold encE; rw [if_neg (by omega)]
      exact ⟨this, by unfold encL; rw [if_pos this]⟩
    have hE1 := hE l (by omega)
    have hE2 := hE (mv y l) (by omega)
    have hd := mv_enc y hok (by omega)
    have hmb : (enc (mv y l)).length ≤ 1000000 := by
      obtain ⟨z1, z2, z3, z4, z5⟩ := enc_len hmok (by omega)
      unfold enc encT
      split <;> simp <;> omega
    have hlb : (enc l).length ≤ 1000000 := by
      obtain ⟨z1, z2, z3, z4, z5⟩ := enc_len hok (by omega)
      unfold enc encT
      split <;> simp <;> omega
    rw [l1] at hos1 ⊢
    rw [l2] at hos2 ⊢
    repeat' (first | (simp (disch := omega) only [push_cast, ↓reduceIte, Nat.reduceEqDiff, Int.reduceToNat, Nat.reducePow, Int.reducePow, Int.reduceNeg, Nat.reduceMul, Int.reduceMul, Int.reduceAdd, Int.reduceSub, Nat.reduceAdd, Nat.reduceSub, Nat.reduceLeDiff, Int.reduceLT, Int.reduceLE, Int.reduceEq, Int.reduceMod, Int.reduceDiv, reduceCtorEq, not_true_eq_false, not_false_eq_true]) | refine vIfE_of (fun _ => ?_) (fun _ => ?_) | refine vIfD_of (fun _ => ?_) (fun _ => ?_) | refine vIfQ_of (fun _ => ?_) (fun _ => ?_) | refine vIfV_of (fun _ => ?_) (fun _ => ?_) | refine And.intro (by omega) ?_ | refine drawn_q ?_ | fail)
    refine (encode_c _ l w1 (hsl.later hl1) hok).mono ?_
    rintro _ w2 ⟨⟨x, rfl, hx⟩, hl2⟩
    rw [hE1.1]
    rw [hE1.2] at hx
    obtain ⟨ox, cx, hvx⟩ := hx.slice
    subst hvx
    repeat' (first | (simp (disch := omega) only [push_cast, ↓reduceIte, Nat.reduceEqDiff, Int.reduceToNat, Nat.reducePow, Int.reducePow, Int.reduceNeg, Nat.reduceMul, Int.reduceMul, Int.reduceAdd, Int.reduceSub, Nat.reduceAdd, Nat.reduceSub, Nat.reduceLeDiff, Int.reduceLT, Int.reduceLE, Int.reduceEq, Int.reduceMod, Int.reduceDiv, reduceCtorEq, not_true_eq_false, not_false_eq_true]) | refine vIfE_of (fun _ => ?_) (fun _ => ?_) | refine vIfD_of (fun _ => ?_) (fun _ => ?_) | refine vIfQ_of (fun _ => ?_) (fun _ => ?_) | refine vIfV_of (fun _ => ?_) (fun _ => ?_) | refine And.intro (by omega) ?_ | refine drawn_q ?_ | fail)
    refine (encode_c _ (mv y l) w2 (hos1.later hl2) hmok).mono ?_
    rintro _ w3 ⟨⟨z, rfl, hz⟩, hl3⟩
    rw [hE2.1]
    rw [hE2.2] at hz
    obtain ⟨oz, cz, hvz⟩ := hz.slice
    subst hvz
    repeat' (first | (simp (disch := omega) only [push_cast, ↓reduceIte, Nat.reduceEqDiff, Int.reduceToNat, Nat.reducePow, Int.reducePow, Int.reduceNeg, Nat.reduceMul, Int.reduceMul, Int.reduceAdd, Int.reduceSub, Nat.reduceAdd, Nat.reduceSub, Nat.reduceLeDiff, Int.reduceLT, Int.reduceLE, Int.reduceEq, Int.reduceMod, Int.reduceDiv, reduceCtorEq, not_true_eq_false, not_false_eq_true]) | refine vIfE_of (fun _ => ?_) (fun _ => ?_) | refine vIfD_of (fun _ => ?_) (fun _ => ?_) | refine vIfQ_of (fun _ => ?_) (fun _ => ?_) | refine vIfV_of (fun _ => ?_) (fun _ => ?_) | refine And.intro (by omega) ?_ | refine drawn_q ?_ | fail)
    refine (decode_c _ _ w3 hz.sl (by omega)).mono ?_
    rintro _ w4 ⟨⟨q, m, e4, rfl, hD, hq⟩, hl4⟩
    obtain ⟨rfl, rfl⟩ := decE_one hD (.inl ⟨⟨hmok, by omega, rfl⟩, rfl⟩)
    obtain ⟨oq, cq, hvq⟩ := hq.slice
    subst hvq
    repeat' (first | (simp (disch := omega) only [push_cast, ↓reduceIte, Nat.reduceEqDiff, Int.reduceToNat, Nat.reducePow, Int.reducePow, Int.reduceNeg, Nat.reduceMul, Int.reduceMul, Int.reduceAdd, Int.reduceSub, Nat.reduceAdd, Nat.reduceSub, Nat.reduceLeDiff, Int.reduceLT, Int.reduceLE, Int.reduceEq, Int.reduceMod, Int.reduceDiv, reduceCtorEq, not_true_eq_false, not_false_eq_true]) | refine vIfE_of (fun _ => ?_) (fun _ => ?_) | refine vIfD_of (fun _ => ?_) (fun _ => ?_) | refine vIfQ_of (fun _ => ?_) (fun _ => ?_) | refine vIfV_of (fun _ => ?_) (fun _ => ?_) | refine And.intro (by omega) ?_ | refine drawn_q ?_ | fail)
    refine (dalive_c w4).mono ?_
    rintro _ w5 ⟨rfl, hl5⟩
    repeat' (first | (simp (disch := omega) only [push_cast, ↓reduceIte, Nat.reduceEqDiff, Int.reduceToNat, Nat.reducePow, Int.reducePow, Int.reduceNeg, Nat.reduceMul, Int.reduceMul, Int.reduceAdd, Int.reduceSub, Nat.reduceAdd, Nat.reduceSub, Nat.reduceLeDiff, Int.reduceLT, Int.reduceLE, Int.reduceEq, Int.reduceMod, Int.reduceDiv, reduceCtorEq, not_true_eq_false, not_false_eq_true]) | refine vIfE_of (fun _ => ?_) (fun _ => ?_) | refine vIfD_of (fun _ => ?_) (fun _ => ?_) | refine vIfQ_of (fun _ => ?_) (fun _ => ?_) | refine vIfV_of (fun _ => ?_) (fun _ => ?_) | refine And.intro (by omega) ?_ | refine drawn_q ?_ | fail)
    have hl15 := ((hl2.trans hl3).trans hl4).trans hl5
    refine (ints_c _ _ (mv y l) (mv y l) w5 (hq.sl.later hl5) (hos1.later hl15)).mono ?_
    rintro _ w6 ⟨rfl, hl6⟩
    repeat' (first | (simp (disch := omega) only [push_cast, ↓reduceIte, Nat.reduceEqDiff, Int.reduceToNat, Nat.reducePow, Int.reducePow, Int.reduceNeg, Nat.reduceMul, Int.reduceMul, Int.reduceAdd, Int.reduceSub, Nat.reduceAdd, Nat.reduceSub, Nat.reduceLeDiff, Int.reduceLT, Int.reduceLE, Int.reduceEq, Int.reduceMod, Int.reduceDiv, reduceCtorEq, not_true_eq_false, not_false_eq_true, decide_true]) | refine vIfE_of (fun _ => ?_) (fun _ => ?_) | refine vIfD_of (fun _ => ?_) (fun _ => ?_) | refine vIfQ_of (fun _ => ?_) (fun _ => ?_) | refine vIfV_of (fun _ => ?_) (fun _ => ?_) | refine And.intro (by omega) ?_ | refine drawn_q ?_ | fail)
    refine (dsorted_c _ l.reverse w6 (hos2.later (hl15.trans hl6))).mono ?_
    rintro _ w7 ⟨rfl, hl7⟩
    have hbb : decide (Srt l.reverse) = falB l l.length := by
      rw [Bool.eq_iff_iff, decide_eq_true_eq]; exact srt_rev l
    rw [hbb]
    repeat' (first | (simp (disch := omega) only [push_cast, ↓reduceIte, Nat.reduceEqDiff, Int.reduceToNat, Nat.reducePow, Int.reducePow, Int.reduceNeg, Nat.reduceMul, Int.reduceMul, Int.reduceAdd, Int.reduceSub, Nat.reduceAdd, Nat.reduceSub, Nat.reduceLeDiff, Int.reduceLT, Int.reduceLE, Int.reduceEq, Int.reduceMod, Int.reduceDiv, reduceCtorEq, not_true_eq_false, not_false_eq_true, decide_true]) | refine vIfE_of (fun _ => ?_) (fun _ => ?_) | refine vIfD_of (fun _ => ?_) (fun _ => ?_) | refine vIfQ_of (fun _ => ?_) (fun _ => ?_) | refine vIfV_of (fun _ => ?_) (fun _ => ?_) | refine And.intro (by omega) ?_ | refine drawn_q ?_ | fail)
    exact ((hl1.trans hl15).trans hl6).trans hl7
theorem own : ownKnob Try.prog.godebug = none := by kernel_rfl
theorem lifted (os : Os) (started : os.Started) (H : Type) (enc : TypeId × Value → H) :
    ReturnsInHanded {} Try.checked os 12 .any (Rows.deltaShiftSpec.pre6 enc Try.prog Try.f12 Rows.deltaShiftRow.domain false) (Rows.deltaShiftSpec.post enc Try.prog Try.f12 false true false false) := by
  refine lifted_later (C := Try.checked) own started (by kernel_rfl) Try.func12 hb12
    (ChangeSpec.witness6 (enc := enc) (C := Try.checked) false ⟨#[], #[.slice none 0 0, .int .i64 0], []⟩ 12 (by kernel_rfl) (by kernel_rfl) (by kernel_rfl) (by kernel_rfl))
    (by kernel_rfl) (list_all (by kernel_rfl)) (by kernel_rfl) Try.underlying4 rfl ?_ ?_
  · intro ds h
    have h : ds.length = 2 := h
    match ds, h with
    | [_, _], _ => rfl
  · intro W base args ds p hval0 hA0
    have hval : ∀ (j : Nat) t v, Try.f12.params[j]? = some t → args[j]? = some v → Value.okWide Try.prog W .any base t v := hval0
    have hA : DataW.TrodAll enc Try.prog W 0 (fun _ => true) true Try.f12.params.toList args.toList ds p := hA0
    rw [Try.params12] at hA hval
    obtain ⟨v0, vs0, d0, ds0, p0, q0, hargs, rfl, rfl, h0, r0⟩ := trodAll_cons hA
    obtain ⟨v1, vs1, d1, ds1, p1, q1, rfl, rfl, rfl, h1, r1⟩ := trodAll_cons r0
    obtain ⟨rfl, rfl, rfl⟩ := trodAll_nil r1
    obtain rfl : args = #[v0, v1] := by cases args; simp_all
    obtain ⟨a0, w0, u0⟩ := open_i64s Try.underlying35 Try.underlying3 (by kernel_rfl) (hval 0 35 v0 rfl rfl) h0
    obtain ⟨a1, rfl, rfl, rfl, w1⟩ := open_int Try.underlying3 (hval 1 3 v1 rfl rfl) h1
    exact law_c v0 a0 a1 W w0 u0 (i64_of_wf w1)
theorem over : Rows.deltaShiftRow.holds Try.pinned (OpenSpec.ofChange Rows.deltaShiftSpec) :=
  OpenClaim.holds_of_wide 12 Try.f12 rfl rfl rfl rfl rfl rfl rfl ⟨rfl, rfl, rfl, rfl, rfl⟩ rfl rfl rfl rfl rfl (by kernel_rfl) Try.func12 (by kernel_rfl)
    (of_decide_eq_true (by kernel_rfl)) (by unfold Func.isWrapper; first | (rw [if_pos (by decide +kernel)]; kernel_rfl) | (rw [if_neg (by decide +kernel)]; exact ⟨rfl, rfl⟩))
    (fun os started H enc _ => lifted os started H enc)
/-- The statement. -/
theorem proved : Rows.DeltaShiftSaid :=
  over
end Go.Proofs.Ytdfdohajjgjbdaa.deltaShift
