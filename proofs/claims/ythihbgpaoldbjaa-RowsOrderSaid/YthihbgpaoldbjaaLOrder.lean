/- RowsOrder holds for every input: of any three right rows one is below another one just if that is not below it, nor of one key; below below is below; those of one key are below the same ones; a list is sorted just if all that follow one another are so. -/
import Derived.Test.YthihbgpaoldbjaaRows
import Derived.Test.YthihbgpaoldbjaaPartN
set_option linter.all false
open Nat renaming reduceEqDiff → zA, reducePow → zB, reduceMul → zC, reduceAdd → zD, reduceSub → zE, reduceLeDiff → zF
open Int renaming reduceToNat → zG, reducePow → zH, reduceNeg → zI, reduceMul → zJ, reduceAdd → zK, reduceSub → zL, reduceLT → zM, reduceLE → zN, reduceEq → zO, reduceMod → zP, reduceDiv → zQ
set_option linter.unusedSimpArgs false
namespace Go.Proofs.Ythihbgpaoldbjaa.rowsOrder
open Go.Vc Go.Key Go.Fold Go.Stab Go.ChangeShapes Go.WideShapes Go.ChangeAt Go.RowKit
set_option maxRecDepth 100000
set_option maxHeartbeats 1000000 in
theorem law_c (dv mv : Value) (d m : List ByteArray) (x y z : El) (w : World) (h : ScIs w dv mv d m) (hx : ElQ w x) (hy : ElQ w y) (hz : ElQ w z) : FnC Try.prog 8 #[scV dv mv, .agg (arr3 x y z)] w fun r w' => r = .bool true ∧ Later w w' := by
  unfold scV
  refine enter8 _ _ ?_
  unfold B8
  obtain ⟨l2, s2, F⟩ := boxSA w dv mv (arr3 x y z) 57
  have s1 := World.size_alloc w (.cells #[dv, mv] 24)
  have eca : (Value.agg #[dv, mv]).cells = #[dv, mv] := rfl
  have ecb : (Value.agg (arr3 x y z)).cells = arr3 x y z := rfl
  repeat' (first | (simp (disch := omega) only [push_cast, ↓reduceIte, zA, zG, zB, zH, zI, zC, zJ, zK, zL, zD, zE, zF, zM, zN, zO, zP, zQ, reduceCtorEq, not_true_eq_false, not_false_eq_true, eca, ecb, s1, s2]) | (first | refine vIfE_of ?_ ?_ | refine vIfD_of ?_ ?_ | refine vIfQ_of ?_ ?_ | refine vIfV_of ?_ ?_) <;> intro _ | refine And.intro (by omega) ?_ | fail)
  generalize ((w.alloc (.cells #[dv, mv] 24)).alloc (.cells (arr3 x y z) 57)) = w2 at *
  have G : ∀ w', Later w2 w' → Go.Vc.cellsAt w' ⟨w.heap.size, 0, none⟩ 2 = some [dv, mv] ∧ RecS elC 4 w' (.slice (some ⟨w.heap.size + 1, 0, none⟩) 3 3) [x, y, z] ∧ Go.Vc.cellsAt w' ⟨w.heap.size + 1, 0, none⟩ 4 = some (elC x) ∧ Go.Vc.cellsAt w' ⟨w.heap.size + 1, 4, none⟩ 4 = some (elC y) ∧ Go.Vc.cellsAt w' ⟨w.heap.size + 1, 8, none⟩ 4 = some (elC z) := by
    intro w' hl
    obtain ⟨a, b⟩ := F w' hl
    obtain ⟨q1, q2, q3⟩ := arr3_at b
    exact ⟨a, rec3 b, q1, q2, q3⟩
  clear F eca ecb s1 s2
  have E : ∀ w', Later w w' → EIs w' x ∧ EIs w' y ∧ EIs w' z := fun w' hl => ⟨hx.is.later hl, hy.is.later hl, hz.is.later hl⟩
  have Z : ∀ w', Later w w' → ∀ e ∈ [x, y, z], EIs w' e ∧ StZ e.d := by
    intro w' hl e he
    simp only [List.mem_cons, List.not_mem_nil, or_false] at he
    rcases he with rfl | rfl | rfl
    · exact ⟨(E w' hl).1, hx.z⟩
    · exact ⟨(E w' hl).2.1, hy.z⟩
    · exact ⟨(E w' hl).2.2, hz.z⟩
  obtain ⟨a2, _⟩ := G w2 (Later.refl _)
  refine drawn_q ?_
  repeat' (first | (simp (disch := omega) only [push_cast, ↓reduceIte, zA, zG, zB, zH, zI, zC, zJ, zK, zL, zD, zE, zF, zM, zN, zO, zP, zQ, reduceCtorEq, not_true_eq_false, not_false_eq_true, a2]) | (first | refine vIfE_of ?_ ?_ | refine vIfD_of ?_ ?_ | refine vIfQ_of ?_ ?_ | refine vIfV_of ?_ ?_) <;> intro _ | refine And.intro (by omega) ?_ | fail)
  refine qX_slArr (n := 3) (a := ⟨w.heap.size + 1, 0, none⟩) Try.underlying57 sz35 (by simp (disch := omega) only [push_cast, ↓reduceIte, zA, zG, zB, zH, zI, zC, zJ, zK, zL, zD, zE, zF, zM, zN, zO, zP, zQ, reduceCtorEq, not_true_eq_false, not_false_eq_true]) ?_
  repeat' (first | (simp (disch := omega) only [push_cast, ↓reduceIte, zA, zG, zB, zH, zI, zC, zJ, zK, zL, zD, zE, zF, zM, zN, zO, zP, zQ, reduceCtorEq, not_true_eq_false, not_false_eq_true]) | (first | refine vIfE_of ?_ ?_ | refine vIfD_of ?_ ?_ | refine vIfQ_of ?_ ?_ | refine vIfV_of ?_ ?_) <;> intro _ | refine And.intro (by omega) ?_ | fail)
  refine QFn.of hb11 (v := .bool (decide (F13 d m [x, y, z]))) (fun w' hl => fits13_c dv mv _ d m [x, y, z] w' (h.later (l2.trans hl)) (G w' hl).2.1 (Z w' (l2.trans hl))) ?_
  by_cases hF : F13 d m [x, y, z]
  case neg =>
    rw [decide_eq_false hF]
    repeat' (first | (simp (disch := omega) only [push_cast, ↓reduceIte, zA, zG, zB, zH, zI, zC, zJ, zK, zL, zD, zE, zF, zM, zN, zO, zP, zQ, reduceCtorEq, not_true_eq_false, not_false_eq_true]) | (first | refine vIfE_of ?_ ?_ | refine vIfD_of ?_ ?_ | refine vIfQ_of ?_ ?_ | refine vIfV_of ?_ ?_) <;> intro _ | refine And.intro (by omega) ?_ | refine drawn_q ?_ | fail)
    intro w3 l3
    have l03 := l2.trans l3
    repeat' (first | (simp (disch := omega) only [push_cast, ↓reduceIte, zA, zG, zB, zH, zI, zC, zJ, zK, zL, zD, zE, zF, zM, zN, zO, zP, zQ, reduceCtorEq, not_true_eq_false, not_false_eq_true]) | (first | refine vIfE_of ?_ ?_ | refine vIfD_of ?_ ?_ | refine vIfQ_of ?_ ?_ | refine vIfV_of ?_ ?_) <;> intro _ | refine And.intro (by omega) ?_ | refine drawn_q ?_ | fail)
    refine (alive13_c w3).mono ?_
    rintro _ w4 ⟨rfl, l4⟩
    repeat' (first | (simp (disch := omega) only [push_cast, ↓reduceIte, zA, zG, zB, zH, zI, zC, zJ, zK, zL, zD, zE, zF, zM, zN, zO, zP, zQ, reduceCtorEq, not_true_eq_false, not_false_eq_true]) | (first | refine vIfE_of ?_ ?_ | refine vIfD_of ?_ ?_ | refine vIfQ_of ?_ ?_ | refine vIfV_of ?_ ?_) <;> intro _ | refine And.intro (by omega) ?_ | refine drawn_q ?_ | fail)
    first | exact ⟨rfl, (l03.trans l4)⟩ | exact (l03.trans l4)
  rw [decide_eq_true hF]
  repeat' (first | (simp (disch := omega) only [push_cast, ↓reduceIte, zA, zG, zB, zH, zI, zC, zJ, zK, zL, zD, zE, zF, zM, zN, zO, zP, zQ, reduceCtorEq, not_true_eq_false, not_false_eq_true]) | (first | refine vIfE_of ?_ ?_ | refine vIfD_of ?_ ?_ | refine vIfQ_of ?_ ?_ | refine vIfV_of ?_ ?_) <;> intro _ | refine And.intro (by omega) ?_ | refine drawn_q ?_ | fail)
  intro w3 l3
  have l03 := l2.trans l3
  obtain ⟨_, _, hn, hs, hr⟩ := hF
  have gx := gd_of (hr x (by simp)) hs
  have gy := gd_of (hr y (by simp)) hs
  have nx := (hr x (by simp)).1
  have ny := (hr y (by simp)).1
  obtain ⟨_, _, q1, q2, q3⟩ := G w3 l3
  repeat' (first | (simp (disch := omega) only [push_cast, ↓reduceIte, zA, zG, zB, zH, zI, zC, zJ, zK, zL, zD, zE, zF, zM, zN, zO, zP, zQ, reduceCtorEq, not_true_eq_false, not_false_eq_true, q1, q2, q3]) | (first | refine vIfE_of ?_ ?_ | refine vIfD_of ?_ ?_ | refine vIfQ_of ?_ ?_ | refine vIfV_of ?_ ?_) <;> intro _ | refine And.intro (by omega) ?_ | refine drawn_q ?_ | fail)
  refine (rcompare_c x y w3 (E w3 l03).1 (E w3 l03).2.1).mono ?_
  rintro _ w4 ⟨rfl, l4⟩
  have l34 := l3.trans l4
  obtain ⟨_, _, q1, q2, q3⟩ := G w4 l34
  repeat' (first | (simp (disch := omega) only [push_cast, ↓reduceIte, zA, zG, zB, zH, zI, zC, zJ, zK, zL, zD, zE, zF, zM, zN, zO, zP, zQ, reduceCtorEq, not_true_eq_false, not_false_eq_true, q1, q2, q3]) | (first | refine vIfE_of ?_ ?_ | refine vIfD_of ?_ ?_ | refine vIfQ_of ?_ ?_ | refine vIfV_of ?_ ?_) <;> intro _ | refine And.intro (by omega) ?_ | refine drawn_q ?_ | fail)
  refine (rcompare_c y z w4 (E w4 (l2.trans l34)).2.1 (E w4 (l2.trans l34)).2.2).mono ?_
  rintro _ w5 ⟨rfl, l5⟩
  have l35 := l34.trans l5
  obtain ⟨_, _, q1, q2, q3⟩ := G w5 l35
  repeat' (first | (simp (disch := omega) only [push_cast, ↓reduceIte, zA, zG, zB, zH, zI, zC, zJ, zK, zL, zD, zE, zF, zM, zN, zO, zP, zQ, reduceCtorEq, not_true_eq_false, not_false_eq_true, q1, q2, q3]) | (first | refine vIfE_of ?_ ?_ | refine vIfD_of ?_ ?_ | refine vIfQ_of ?_ ?_ | refine vIfV_of ?_ ?_) <;> intro _ | refine And.intro (by omega) ?_ | refine drawn_q ?_ | fail)
  refine (rcompare_c x z w5 (E w5 (l2.trans l35)).1 (E w5 (l2.trans l35)).2.2).mono ?_
  rintro _ w6 ⟨rfl, l6⟩
  have l36 := l35.trans l6
  obtain ⟨_, _, q1, q2, q3⟩ := G w6 l36
  repeat' (first | (simp (disch := omega) only [push_cast, ↓reduceIte, zA, zG, zB, zH, zI, zC, zJ, zK, zL, zD, zE, zF, zM, zN, zO, zP, zQ, reduceCtorEq, not_true_eq_false, not_false_eq_true, q1, q2, q3]) | (first | refine vIfE_of ?_ ?_ | refine vIfD_of ?_ ?_ | refine vIfQ_of ?_ ?_ | refine vIfV_of ?_ ?_) <;> intro _ | refine And.intro (by omega) ?_ | refine drawn_q ?_ | fail)
  refine (rjoin_c x y w6 (E w6 (l2.trans l36)).1 (E w6 (l2.trans l36)).2.1 gx.rr.1 gy.rr.1 (by have := gx.rr.2.2; have := gy.rr.2.2; omega)).mono ?_
  rintro _ w7 ⟨j, er, rfl, hj, hE, l7⟩
  have l37 := l36.trans l7
  have her : (er = 131 ∧ ecmp x y ≠ 0) ∨ (er ≠ 131 ∧ ecmp x y = 0) := by
    rcases hj with ⟨h1, h2, _⟩ | ⟨h1, _, h2, _⟩ | ⟨h1, h2, _⟩
    · exact .inl ⟨h2, h1⟩
    · exact .inr ⟨by omega, h1⟩
    · exact .inr ⟨by omega, h1⟩
  unfold elV
  repeat' (first | (simp (disch := omega) only [push_cast, ↓reduceIte, zA, zG, zB, zH, zI, zC, zJ, zK, zL, zD, zE, zF, zM, zN, zO, zP, zQ, reduceCtorEq, not_true_eq_false, not_false_eq_true]) | (first | refine vIfE_of ?_ ?_ | refine vIfD_of ?_ ?_ | refine vIfQ_of ?_ ?_ | refine vIfV_of ?_ ?_) <;> intro _ | refine And.intro (by omega) ?_ | refine drawn_q ?_ | fail)
  refine vStore_new rfl rfl (by intro u hu; exact elC_one hE.is u (by simpa [elC] using hu)) ?_
  have l8 := later_alloc w7 (.cells #[.int .i64 j.t, j.dv, .int .i64 j.n, j.av] 35)
  generalize w7.alloc (.cells #[.int .i64 j.t, j.dv, .int .i64 j.n, j.av] 35) = w8 at *
  have l38 := l37.trans l8
  obtain ⟨_, _, q1, q2, q3⟩ := G w8 l38
  repeat' (first | (simp (disch := omega) only [push_cast, ↓reduceIte, zA, zG, zB, zH, zI, zC, zJ, zK, zL, zD, zE, zF, zM, zN, zO, zP, zQ, reduceCtorEq, not_true_eq_false, not_false_eq_true, q1, q2, q3]) | (first | refine vIfE_of ?_ ?_ | refine vIfD_of ?_ ?_ | refine vIfQ_of ?_ ?_ | refine vIfV_of ?_ ?_) <;> intro _ | refine And.intro (by omega) ?_ | refine drawn_q ?_ | fail)
  refine (rcompare_c y x w8 (E w8 (l2.trans l38)).2.1 (E w8 (l2.trans l38)).1).mono ?_
  rintro _ w9 ⟨rfl, l9⟩
  have l39 := l38.trans l9
  obtain ⟨_, _, q1, q2, q3⟩ := G w9 l39
  have hneg : ecmp y x = -ecmp x y := by rcases ecmp_is x y with ⟨h1, h2⟩ | ⟨h1, h2⟩ | ⟨h1, h2⟩ <;> omega
  have ha3 : ecmp x y = -1 ∨ ecmp x y = 0 ∨ ecmp x y = 1 := by rcases ecmp_is x y with ⟨h1, h2⟩ | ⟨h1, h2⟩ | ⟨h1, h2⟩ <;> omega
  have hb3 : ecmp y z = -1 ∨ ecmp y z = 0 ∨ ecmp y z = 1 := by rcases ecmp_is y z with ⟨h1, h2⟩ | ⟨h1, h2⟩ | ⟨h1, h2⟩ <;> omega
  have hc3 : ecmp x z = -1 ∨ ecmp x z = 0 ∨ ecmp x z = 1 := by rcases ecmp_is x z with ⟨h1, h2⟩ | ⟨h1, h2⟩ | ⟨h1, h2⟩ <;> omega
  have hw : ecmp y x = -ecmp x y := hneg
  have t1 : ecmp x y = 0 → ecmp y z = ecmp x z := fun h => ecmp_l h z
  have t2 : ecmp y z = 0 → ecmp x y = ecmp x z := fun h => ecmp_r h x
  have t3 : ecmp x y = ecmp y z → ecmp x y ≠ 0 → ecmp x z = ecmp x y := by
    intro h1 h2
    rcases ha3 with ha | ha | ha
    · have := ecmp_trans (x := x) (y := y) (z := z) (by omega) (by omega)
      omega
    · omega
    · have h3 := ecmp_is y z
      have h4 := ecmp_is x z
      have := ecmp_trans (x := z) (y := y) (z := x) (by omega) (by omega)
      omega
  have hup : upB [x, y, z] = (decide (ecmp x y < 0) && decide (ecmp y z < 0)) := by
    show (elt x y && (elt y z && true)) = _
    rw [Bool.and_true]; rfl
  repeat' (first | (simp (disch := omega) only [push_cast, ↓reduceIte, zA, zG, zB, zH, zI, zC, zJ, zK, zL, zD, zE, zF, zM, zN, zO, zP, zQ, reduceCtorEq, not_true_eq_false, not_false_eq_true, q1, q2, q3]) | (first | refine vIfE_of ?_ ?_ | refine vIfD_of ?_ ?_ | refine vIfQ_of ?_ ?_ | refine vIfV_of ?_ ?_) <;> intro _ | refine And.intro (by omega) ?_ | refine drawn_q ?_ | fail)
  refine (rcompare_c x x w9 (E w9 (l2.trans l39)).1 (E w9 (l2.trans l39)).1).mono ?_
  rintro _ w10 ⟨rfl, l10⟩
  have l310 := l39.trans l10
  rw [ecmp_self]
  obtain ⟨ax, hax⟩ : ∃ ax, ax = ecmp x y := ⟨_, rfl⟩
  obtain ⟨bx, hbx⟩ : ∃ bx, bx = ecmp y z := ⟨_, rfl⟩
  obtain ⟨cx, hcx⟩ : ∃ cx, cx = ecmp x z := ⟨_, rfl⟩
  rw [← hax] at ha3 her t1 t2 t3 hup hneg hw ⊢
  rw [← hbx] at hb3 t1 t2 t3 hup ⊢
  rw [← hcx] at hc3 t1 t2 t3 ⊢
  clear hax hbx hcx
  rcases her with ⟨he1, he2⟩ | ⟨he1, he2⟩
  · subst he1
    have hd : decide (ax = 0) = false := decide_eq_false he2
    repeat' (first | (simp (disch := omega) only [push_cast, ↓reduceIte, zA, zG, zB, zH, zI, zC, zJ, zK, zL, zD, zE, zF, zM, zN, zO, zP, zQ, reduceCtorEq, not_true_eq_false, not_false_eq_true, decide_true, hd, Bool.not_false]) | (first | refine vIfE_of ?_ ?_ | refine vIfD_of ?_ ?_ | refine vIfQ_of ?_ ?_ | refine vIfV_of ?_ ?_) <;> intro _ | refine And.intro (by omega) ?_ | refine drawn_q ?_ | fail)
    all_goals first | (exfalso; omega) | skip
    all_goals
      refine (alive13_c w10).mono ?_
      rintro _ w11 ⟨rfl, l11⟩
      have l311 := l310.trans l11
      repeat' (first | (simp (disch := omega) only [push_cast, ↓reduceIte, zA, zG, zB, zH, zI, zC, zJ, zK, zL, zD, zE, zF, zM, zN, zO, zP, zQ, reduceCtorEq, not_true_eq_false, not_false_eq_true]) | (first | refine vIfE_of ?_ ?_ | refine vIfD_of ?_ ?_ | refine vIfQ_of ?_ ?_ | refine vIfV_of ?_ ?_) <;> intro _ | refine And.intro (by omega) ?_ | refine drawn_q ?_ | fail)
      refine vSl_arr (s := 4) Try.underlying57 sz35 ?_
      repeat' (first | (simp (disch := omega) only [push_cast, ↓reduceIte, zA, zG, zB, zH, zI, zC, zJ, zK, zL, zD, zE, zF, zM, zN, zO, zP, zQ, reduceCtorEq, not_true_eq_false, not_false_eq_true]) | (first | refine vIfE_of ?_ ?_ | refine vIfD_of ?_ ?_ | refine vIfQ_of ?_ ?_ | refine vIfV_of ?_ ?_) <;> intro _ | refine And.intro (by omega) ?_ | refine drawn_q ?_ | fail)
      refine (sorted_c _ [x, y, z] w11 (G w11 l311).2.1 (fun e he => (Z w11 (l2.trans l311) e he).1)).mono ?_
      rintro _ w12 ⟨rfl, l12⟩
      have l012 := (l2.trans l311).trans l12
      rw [hup]
      by_cases ha : ax < 0
      · by_cases hb : bx < 0
        · rw [decide_eq_true ha, decide_eq_true hb]
          repeat' (first | (simp (disch := omega) only [push_cast, ↓reduceIte, zA, zG, zB, zH, zI, zC, zJ, zK, zL, zD, zE, zF, zM, zN, zO, zP, zQ, reduceCtorEq, not_true_eq_false, not_false_eq_true, decide_true, Bool.and_true]) | (first | refine vIfE_of ?_ ?_ | refine vIfD_of ?_ ?_ | refine vIfQ_of ?_ ?_ | refine vIfV_of ?_ ?_) <;> intro _ | refine And.intro (by omega) ?_ | refine drawn_q ?_ | fail)
          first | exact ⟨(by simp [hb]), l012⟩ | exact l012
        · rw [decide_eq_true ha, decide_eq_false hb]
          repeat' (first | (simp (disch := omega) only [push_cast, ↓reduceIte, zA, zG, zB, zH, zI, zC, zJ, zK, zL, zD, zE, zF, zM, zN, zO, zP, zQ, reduceCtorEq, not_true_eq_false, not_false_eq_true, decide_true, Bool.and_false]) | (first | refine vIfE_of ?_ ?_ | refine vIfD_of ?_ ?_ | refine vIfQ_of ?_ ?_ | refine vIfV_of ?_ ?_) <;> intro _ | refine And.intro (by omega) ?_ | refine drawn_q ?_ | fail)
          first | exact ⟨(by simp [hb]), l012⟩ | exact l012
      · rw [decide_eq_false ha]
        repeat' (first | (simp (disch := omega) only [push_cast, ↓reduceIte, zA, zG, zB, zH, zI, zC, zJ, zK, zL, zD, zE, zF, zM, zN, zO, zP, zQ, reduceCtorEq, not_true_eq_false, not_false_eq_true, decide_true, Bool.false_and]) | (first | refine vIfE_of ?_ ?_ | refine vIfD_of ?_ ?_ | refine vIfQ_of ?_ ?_ | refine vIfV_of ?_ ?_) <;> intro _ | refine And.intro (by omega) ?_ | refine drawn_q ?_ | fail)
        first | exact ⟨rfl, l012⟩ | exact l012
  · have hd : decide (ax = 0) = true := decide_eq_true he2
    have hd2 : decide (er = 131) = false := decide_eq_false he1
    repeat' (first | (simp (disch := omega) only [push_cast, ↓reduceIte, zA, zG, zB, zH, zI, zC, zJ, zK, zL, zD, zE, zF, zM, zN, zO, zP, zQ, reduceCtorEq, not_true_eq_false, not_false_eq_true, decide_true, hd, hd2, Bool.not_true]) | (first | refine vIfE_of ?_ ?_ | refine vIfD_of ?_ ?_ | refine vIfQ_of ?_ ?_ | refine vIfV_of ?_ ?_) <;> intro _ | refine And.intro (by omega) ?_ | refine drawn_q ?_ | fail)
    all_goals first | (exfalso; omega) | skip
    all_goals
      refine (alive13_c w10).mono ?_
      rintro _ w11 ⟨rfl, l11⟩
      have l311 := l310.trans l11
      repeat' (first | (simp (disch := omega) only [push_cast, ↓reduceIte, zA, zG, zB, zH, zI, zC, zJ, zK, zL, zD, zE, zF, zM, zN, zO, zP, zQ, reduceCtorEq, not_true_eq_false, not_false_eq_true]) | (first | refine vIfE_of ?_ ?_ | refine vIfD_of ?_ ?_ | refine vIfQ_of ?_ ?_ | refine vIfV_of ?_ ?_) <;> intro _ | refine And.intro (by omega) ?_ | refine drawn_q ?_ | fail)
      refine vSl_arr (s := 4) Try.underlying57 sz35 ?_
      repeat' (first | (simp (disch := omega) only [push_cast, ↓reduceIte, zA, zG, zB, zH, zI, zC, zJ, zK, zL, zD, zE, zF, zM, zN, zO, zP, zQ, reduceCtorEq, not_true_eq_false, not_false_eq_true]) | (first | refine vIfE_of ?_ ?_ | refine vIfD_of ?_ ?_ | refine vIfQ_of ?_ ?_ | refine vIfV_of ?_ ?_) <;> intro _ | refine And.intro (by omega) ?_ | refine drawn_q ?_ | fail)
      refine (sorted_c _ [x, y, z] w11 (G w11 l311).2.1 (fun e he => (Z w11 (l2.trans l311) e he).1)).mono ?_
      rintro _ w12 ⟨rfl, l12⟩
      have l012 := (l2.trans l311).trans l12
      rw [hup]
      by_cases ha : ax < 0
      · by_cases hb : bx < 0
        · rw [decide_eq_true ha, decide_eq_true hb]
          repeat' (first | (simp (disch := omega) only [push_cast, ↓reduceIte, zA, zG, zB, zH, zI, zC, zJ, zK, zL, zD, zE, zF, zM, zN, zO, zP, zQ, reduceCtorEq, not_true_eq_false, not_false_eq_true, decide_true, Bool.and_true]) | (first | refine vIfE_of ?_ ?_ | refine vIfD_of ?_ ?_ | refine vIfQ_of ?_ ?_ | refine vIfV_of ?_ ?_) <;> intro _ | refine And.intro (by omega) ?_ | refine drawn_q ?_ | fail)
          first | exact ⟨(by simp [hb]), l012⟩ | exact l012
        · rw [decide_eq_true ha, decide_eq_false hb]
          repeat' (first | (simp (disch := omega) only [push_cast, ↓reduceIte, zA, zG, zB, zH, zI, zC, zJ, zK, zL, zD, zE, zF, zM, zN, zO, zP, zQ, reduceCtorEq, not_true_eq_false, not_false_eq_true, decide_true, Bool.and_false]) | (first | refine vIfE_of ?_ ?_ | refine vIfD_of ?_ ?_ | refine vIfQ_of ?_ ?_ | refine vIfV_of ?_ ?_) <;> intro _ | refine And.intro (by omega) ?_ | refine drawn_q ?_ | fail)
          first | exact ⟨(by simp [hb]), l012⟩ | exact l012
      · rw [decide_eq_false ha]
        repeat' (first | (simp (disch := omega) only [push_cast, ↓reduceIte, zA, zG, zB, zH, zI, zC, zJ, zK, zL, zD, zE, zF, zM, zN, zO, zP, zQ, reduceCtorEq, not_true_eq_false, not_false_eq_true, decide_true, Bool.false_and]) | (first | refine vIfE_of ?_ ?_ | refine vIfD_of ?_ ?_ | refine vIfQ_of ?_ ?_ | refine vIfV_of ?_ ?_) <;> intro _ | refine And.intro (by omega) ?_ | refine drawn_q ?_ | fail)
        first | exact ⟨rfl, l012⟩ | exact l012
theorem own : ownKnob Try.prog.godebug = none := by kernel_rfl
theorem lifted (os : Os) (started : os.Started) (H : Type) (enc : TypeId × Value → H) :
    ReturnsInHanded {} Try.checked os 8 .any (Rows.rowsOrderSpec.pre6 enc Try.prog Try.f8 Rows.rowsOrderRow.domain false) (Rows.rowsOrderSpec.post enc Try.prog Try.f8 false true false false) := by
  refine lifted_later (C := Try.checked) own started (by kernel_rfl) Try.func8 hb8
    (ChangeSpec.witness6 (enc := enc) (C := Try.checked) false ⟨#[], #[.agg #[.slice none 0 0, .slice none 0 0], .agg #[.int .i64 0, .slice none 0 0, .int .i64 0, .slice none 0 0, .int .i64 0, .slice none 0 0, .int .i64 0, .slice none 0 0, .int .i64 0, .slice none 0 0, .int .i64 0, .slice none 0 0]], []⟩ 8 (by kernel_rfl) (by kernel_rfl) (by kernel_rfl) (by kernel_rfl))
    (by kernel_rfl) (list_all (by kernel_rfl)) (by kernel_rfl) Try.underlying4 rfl ?_ ?_
  · intro ds h
    have h : ds.length = 2 := h
    match ds, h with
    | [_, _], _ => rfl
  · intro W base args ds p hval0 hA0
    have hval : ∀ (j : Nat) t v, Try.f8.params[j]? = some t → args[j]? = some v → Value.okWide Try.prog W .any base t v := hval0
    have hA : DataW.TrodAll enc Try.prog W 0 (fun _ => true) true Try.f8.params.toList args.toList ds p := hA0
    rw [Try.params8] at hA hval
    obtain ⟨v0, vs0, d0, ds0, p0, q0, hargs, rfl, rfl, h0, r0⟩ := trodAll_cons hA
    obtain ⟨v1, vs1, d1, ds1, p1, q1, rfl, rfl, rfl, h1, r1⟩ := trodAll_cons r0
    obtain ⟨rfl, rfl, rfl⟩ := trodAll_nil r1
    obtain rfl : args = #[v0, v1] := by cases args; simp_all
    obtain ⟨a0, w0⟩ := open_schema (hval 0 24 v0 rfl rfl) h0
    obtain ⟨a1, w1⟩ := open_row3 (hval 1 57 v1 rfl rfl) h1
    exact (by obtain ⟨rfl, hs⟩ := w0; obtain ⟨rfl, h1, h2, h3⟩ := w1; exact law_c _ _ _ _ _ _ _ _ hs h1 h2 h3)
theorem over : Rows.rowsOrderRow.holds Try.pinned (OpenSpec.ofChange Rows.rowsOrderSpec) :=
  OpenClaim.holds_of_wide 8 Try.f8 rfl rfl rfl rfl rfl rfl rfl ⟨rfl, rfl, rfl, rfl, rfl⟩ rfl rfl rfl rfl rfl (by kernel_rfl) Try.func8 (by kernel_rfl)
    (of_decide_eq_true (by kernel_rfl)) (by unfold Func.isWrapper; first | (rw [if_pos (by decide +kernel)]; kernel_rfl) | (rw [if_neg (by decide +kernel)]; exact ⟨rfl, rfl⟩))
    (fun os started H enc _ => lifted os started H enc)
/-- The statement. -/
theorem proved : Rows.RowsOrderSaid :=
  over
end Go.Proofs.Ythihbgpaoldbjaa.rowsOrder
