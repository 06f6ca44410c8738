/- RowsBoth holds for every input: of any two right rows which is below, and what they are joined, and whether lists of them are alike, is as the document says, or the error; both stay. -/
import Derived.Test.YthihbgpaoldbjaaRows
import Derived.Test.YthihbgpaoldbjaaPartN
set_option linter.all false
open Nat renaming reduceEqDiff → zA, reducePow → zB, reduceMul → zC, reduceAdd → zD, reduceSub → zE, reduceLeDiff → zF
open Int renaming reduceToNat → zG, reducePow → zH, reduceNeg → zI, reduceMul → zJ, reduceAdd → zK, reduceSub → zL, reduceLT → zM, reduceLE → zN, reduceEq → zO, reduceMod → zP, reduceDiv → zQ
set_option linter.unusedSimpArgs false
namespace Go.Proofs.Ythihbgpaoldbjaa.rowsBoth
open Go.Vc Go.Key Go.Fold Go.Stab Go.ChangeShapes Go.WideShapes Go.ChangeAt Go.RowKit
set_option maxRecDepth 100000
set_option maxHeartbeats 1000000 in
theorem law_c (dv mv : Value) (d m : List ByteArray) (x y : El) (w : World) (h : ScIs w dv mv d m) (hx : ElQ w x) (hy : ElQ w y) : FnC Try.prog 9 #[scV dv mv, .agg (arr2 x y)] w fun r w' => r = .bool true ∧ Later w w' := by
  unfold scV
  refine enter9 _ _ ?_
  unfold B9
  obtain ⟨l2, s2, F⟩ := boxSA w dv mv (arr2 x y) 61
  have s1 := World.size_alloc w (.cells #[dv, mv] 24)
  have eca : (Value.agg #[dv, mv]).cells = #[dv, mv] := rfl
  have ecb : (Value.agg (arr2 x y)).cells = arr2 x y := rfl
  have q12 : Go.Vc.cellsAt ((w.alloc (.cells #[dv, mv] 24)).alloc (.cells (arr2 x y) 61)) ⟨w.heap.size + 1, 0, none⟩ 4 = some (elC x) ∧ Go.Vc.cellsAt ((w.alloc (.cells #[dv, mv] 24)).alloc (.cells (arr2 x y) 61)) ⟨w.heap.size + 1, 4, none⟩ 4 = some (elC y) := arr2_at (F _ (Later.refl _)).2
  obtain ⟨q1, q2⟩ := q12
  repeat' (first | (simp (disch := omega) only [push_cast, ↓reduceIte, zA, zG, zB, zH, zI, zC, zJ, zK, zL, zD, zE, zF, zM, zN, zO, zP, zQ, reduceCtorEq, not_true_eq_false, not_false_eq_true, eca, ecb, s1, s2]) | (first | refine vIfE_of ?_ ?_ | refine vIfD_of ?_ ?_ | refine vIfQ_of ?_ ?_ | refine vIfV_of ?_ ?_) <;> intro _ | refine And.intro (by omega) ?_ | fail)
  generalize ((w.alloc (.cells #[dv, mv] 24)).alloc (.cells (arr2 x y) 61)) = w2 at *
  repeat' (first | (simp (disch := omega) only [push_cast, ↓reduceIte, zA, zG, zB, zH, zI, zC, zJ, zK, zL, zD, zE, zF, zM, zN, zO, zP, zQ, reduceCtorEq, not_true_eq_false, not_false_eq_true, q1]) | (first | refine vIfE_of ?_ ?_ | refine vIfD_of ?_ ?_ | refine vIfQ_of ?_ ?_ | refine vIfV_of ?_ ?_) <;> intro _ | refine And.intro (by omega) ?_ | refine drawn_q ?_ | fail)
  refine vStore_new rfl rfl (by simpa using elC_one hx.is) ?_
  have l3 := later_alloc w2 (.cells (elC x).toArray 35)
  have Bx := Blk.new w2 (elC x).toArray 35
  generalize w2.alloc (.cells (elC x).toArray 35) = w3 at *
  have q2' := cellsAt_later l3 4 q2
  generalize w2.heap.size = kx at *
  repeat' (first | (simp (disch := omega) only [push_cast, ↓reduceIte, zA, zG, zB, zH, zI, zC, zJ, zK, zL, zD, zE, zF, zM, zN, zO, zP, zQ, reduceCtorEq, not_true_eq_false, not_false_eq_true, q2']) | (first | refine vIfE_of ?_ ?_ | refine vIfD_of ?_ ?_ | refine vIfQ_of ?_ ?_ | refine vIfV_of ?_ ?_) <;> intro _ | refine And.intro (by omega) ?_ | refine drawn_q ?_ | fail)
  refine vStore_new rfl rfl (by simpa using elC_one hy.is) ?_
  have l4 := later_alloc w3 (.cells (elC y).toArray 35)
  have By := Blk.new w3 (elC y).toArray 35
  generalize w3.alloc (.cells (elC y).toArray 35) = w4 at *
  generalize w3.heap.size = ky at *
  have l24 := l3.trans l4
  have l04 := l2.trans l24
  have G : ∀ w', Later w4 w' → Go.Vc.cellsAt w' ⟨w.heap.size, 0, none⟩ 2 = some [dv, mv] ∧ RecS elC 4 w' (.slice (some ⟨w.heap.size + 1, 0, none⟩) 2 2) [x, y] ∧ Go.Vc.cellsAt w' ⟨kx, 0, none⟩ 4 = some (elC x) ∧ Go.Vc.cellsAt w' ⟨ky, 0, none⟩ 4 = some (elC y) := by
    intro w' hl
    obtain ⟨a, b⟩ := F w' (l24.trans hl)
    exact ⟨a, rec2 b, cellsAt_later (l4.trans hl) 4 (Blk.cellsAt (l := elC x) Bx), cellsAt_later hl 4 (Blk.cellsAt (l := elC y) By)⟩
  clear F eca ecb s1 s2 q1 q2 q2' Bx By
  have E : ∀ w', Later w w' → EIs w' x ∧ EIs w' y := fun w' hl => ⟨hx.is.later hl, hy.is.later hl⟩
  have Z : ∀ w', Later w w' → ∀ e ∈ [x, y], EIs w' e ∧ StZ e.d := by
    intro w' hl e he
    simp only [List.mem_cons, List.not_mem_nil, or_false] at he
    rcases he with rfl | rfl
    · exact ⟨(E w' hl).1, hx.z⟩
    · exact ⟨(E w' hl).2, hy.z⟩
  obtain ⟨a2, _⟩ := G w4 (Later.refl _)
  repeat' (first | (simp (disch := omega) only [push_cast, ↓reduceIte, zA, zG, zB, zH, zI, zC, zJ, zK, zL, zD, zE, zF, zM, zN, zO, zP, zQ, reduceCtorEq, not_true_eq_false, not_false_eq_true]) | (first | refine vIfE_of ?_ ?_ | refine vIfD_of ?_ ?_ | refine vIfQ_of ?_ ?_ | refine vIfV_of ?_ ?_) <;> intro _ | refine And.intro (by omega) ?_ | fail)
  refine drawn_q ?_
  repeat' (first | (simp (disch := omega) only [push_cast, ↓reduceIte, zA, zG, zB, zH, zI, zC, zJ, zK, zL, zD, zE, zF, zM, zN, zO, zP, zQ, reduceCtorEq, not_true_eq_false, not_false_eq_true, a2]) | (first | refine vIfE_of ?_ ?_ | refine vIfD_of ?_ ?_ | refine vIfQ_of ?_ ?_ | refine vIfV_of ?_ ?_) <;> intro _ | refine And.intro (by omega) ?_ | fail)
  refine qX_slArr (n := 2) (a := ⟨w.heap.size + 1, 0, none⟩) Try.underlying61 sz35 (by simp (disch := omega) only [push_cast, ↓reduceIte, zA, zG, zB, zH, zI, zC, zJ, zK, zL, zD, zE, zF, zM, zN, zO, zP, zQ, reduceCtorEq, not_true_eq_false, not_false_eq_true]) ?_
  repeat' (first | (simp (disch := omega) only [push_cast, ↓reduceIte, zA, zG, zB, zH, zI, zC, zJ, zK, zL, zD, zE, zF, zM, zN, zO, zP, zQ, reduceCtorEq, not_true_eq_false, not_false_eq_true]) | (first | refine vIfE_of ?_ ?_ | refine vIfD_of ?_ ?_ | refine vIfQ_of ?_ ?_ | refine vIfV_of ?_ ?_) <;> intro _ | refine And.intro (by omega) ?_ | fail)
  refine QFn.of hb11 (v := .bool (decide (F13 d m [x, y]))) (fun w' hl => fits13_c dv mv _ d m [x, y] w' (h.later (l04.trans hl)) (G w' hl).2.1 (Z w' (l04.trans hl))) ?_
  by_cases hF : F13 d m [x, y]
  case neg =>
    rw [decide_eq_false hF]
    repeat' (first | (simp (disch := omega) only [push_cast, ↓reduceIte, zA, zG, zB, zH, zI, zC, zJ, zK, zL, zD, zE, zF, zM, zN, zO, zP, zQ, reduceCtorEq, not_true_eq_false, not_false_eq_true]) | (first | refine vIfE_of ?_ ?_ | refine vIfD_of ?_ ?_ | refine vIfQ_of ?_ ?_ | refine vIfV_of ?_ ?_) <;> intro _ | refine And.intro (by omega) ?_ | refine drawn_q ?_ | fail)
    intro w5 l5
    have l05 := l04.trans l5
    repeat' (first | (simp (disch := omega) only [push_cast, ↓reduceIte, zA, zG, zB, zH, zI, zC, zJ, zK, zL, zD, zE, zF, zM, zN, zO, zP, zQ, reduceCtorEq, not_true_eq_false, not_false_eq_true]) | (first | refine vIfE_of ?_ ?_ | refine vIfD_of ?_ ?_ | refine vIfQ_of ?_ ?_ | refine vIfV_of ?_ ?_) <;> intro _ | refine And.intro (by omega) ?_ | refine drawn_q ?_ | fail)
    refine (alive13_c w5).mono ?_
    rintro _ w6 ⟨rfl, l6⟩
    repeat' (first | (simp (disch := omega) only [push_cast, ↓reduceIte, zA, zG, zB, zH, zI, zC, zJ, zK, zL, zD, zE, zF, zM, zN, zO, zP, zQ, reduceCtorEq, not_true_eq_false, not_false_eq_true]) | (first | refine vIfE_of ?_ ?_ | refine vIfD_of ?_ ?_ | refine vIfQ_of ?_ ?_ | refine vIfV_of ?_ ?_) <;> intro _ | refine And.intro (by omega) ?_ | refine drawn_q ?_ | fail)
    first | exact ⟨rfl, (l05.trans l6)⟩ | exact (l05.trans l6)
  rw [decide_eq_true hF]
  repeat' (first | (simp (disch := omega) only [push_cast, ↓reduceIte, zA, zG, zB, zH, zI, zC, zJ, zK, zL, zD, zE, zF, zM, zN, zO, zP, zQ, reduceCtorEq, not_true_eq_false, not_false_eq_true]) | (first | refine vIfE_of ?_ ?_ | refine vIfD_of ?_ ?_ | refine vIfQ_of ?_ ?_ | refine vIfV_of ?_ ?_) <;> intro _ | refine And.intro (by omega) ?_ | refine drawn_q ?_ | fail)
  intro w5 l5
  have l05 := l04.trans l5
  obtain ⟨_, _, hn, hs, hr⟩ := hF
  have gx := gd_of (hr x (by simp)) hs
  have gy := gd_of (hr y (by simp)) hs
  have nx := (hr x (by simp)).1
  have ny := (hr y (by simp)).1
  have gd : ∀ e ∈ [x, y], e.d.length ≤ 1000000 ∧ e.a.length ≤ 1000000 := by
    intro e he
    simp only [List.mem_cons, List.not_mem_nil, or_false] at he
    rcases he with rfl | rfl
    · have := gx.rr.1.dl; have := gx.rr.1.al; omega
    · have := gy.rr.1.dl; have := gy.rr.1.al; omega
  repeat' (first | (simp (disch := omega) only [push_cast, ↓reduceIte, zA, zG, zB, zH, zI, zC, zJ, zK, zL, zD, zE, zF, zM, zN, zO, zP, zQ, reduceCtorEq, not_true_eq_false, not_false_eq_true]) | (first | refine vIfE_of ?_ ?_ | refine vIfD_of ?_ ?_ | refine vIfQ_of ?_ ?_ | refine vIfV_of ?_ ?_) <;> intro _ | refine And.intro (by omega) ?_ | refine drawn_q ?_ | fail)
  refine vSl_arr (s := 4) Try.underlying61 sz35 ?_
  repeat' (first | (simp (disch := omega) only [push_cast, ↓reduceIte, zA, zG, zB, zH, zI, zC, zJ, zK, zL, zD, zE, zF, zM, zN, zO, zP, zQ, reduceCtorEq, not_true_eq_false, not_false_eq_true]) | (first | refine vIfE_of ?_ ?_ | refine vIfD_of ?_ ?_ | refine vIfQ_of ?_ ?_ | refine vIfV_of ?_ ?_) <;> intro _ | refine And.intro (by omega) ?_ | refine drawn_q ?_ | fail)
  refine (copy_c _ [x, y] w5 (G w5 l5).2.1 (fun e he => ⟨(Z w5 l05 e he).1, gd e he⟩) (by simp)).mono ?_
  rintro cv w6 ⟨⟨cs, hco, hca, hcE⟩, l6⟩
  have l46 := l5.trans l6
  obtain ⟨_, _, q1, q2⟩ := G w6 l46
  repeat' (first | (simp (disch := omega) only [push_cast, ↓reduceIte, zA, zG, zB, zH, zI, zC, zJ, zK, zL, zD, zE, zF, zM, zN, zO, zP, zQ, reduceCtorEq, not_true_eq_false, not_false_eq_true, q1, q2]) | (first | refine vIfE_of ?_ ?_ | refine vIfD_of ?_ ?_ | refine vIfQ_of ?_ ?_ | refine vIfV_of ?_ ?_) <;> intro _ | refine And.intro (by omega) ?_ | refine drawn_q ?_ | fail)
  refine (less_c x y w6 (E w6 (l04.trans l46)).1 (E w6 (l04.trans l46)).2 (by omega)).mono ?_
  rintro _ w7 ⟨rfl, l7⟩
  have l47 := l46.trans l7
  obtain ⟨_, _, q1, q2⟩ := G w7 l47
  have hc : (ecmp x y = -1 ∧ elt x y = true ∧ elt y x = false) ∨ (ecmp x y = 0 ∧ elt x y = false ∧ elt y x = false) ∨ (ecmp x y = 1 ∧ elt x y = false ∧ elt y x = true) := by
    rcases ecmp_is x y with ⟨h1, h2⟩ | ⟨h1, h2⟩ | ⟨h1, h2⟩
    · exact .inl ⟨h1, decide_eq_true (by omega), decide_eq_false (by omega)⟩
    · exact .inr (.inl ⟨h1, decide_eq_false (by omega), decide_eq_false (by omega)⟩)
    · exact .inr (.inr ⟨h1, decide_eq_false (by omega), decide_eq_true (by omega)⟩)
  rcases hc with ⟨hc, hxy, hyx⟩ | ⟨hc, hxy, hyx⟩ | ⟨hc, hxy, hyx⟩
  all_goals
    rw [hxy]
    repeat' (first | (simp (disch := omega) only [push_cast, ↓reduceIte, zA, zG, zB, zH, zI, zC, zJ, zK, zL, zD, zE, zF, zM, zN, zO, zP, zQ, reduceCtorEq, not_true_eq_false, not_false_eq_true, q1, q2]) | (first | refine vIfE_of ?_ ?_ | refine vIfD_of ?_ ?_ | refine vIfQ_of ?_ ?_ | refine vIfV_of ?_ ?_) <;> intro _ | refine And.intro (by omega) ?_ | refine drawn_q ?_ | fail)
    refine (less_c y x w7 (E w7 (l04.trans l47)).2 (E w7 (l04.trans l47)).1 (by omega)).mono ?_
    rintro _ w8 ⟨rfl, l8⟩
    have l48 := l47.trans l8
    obtain ⟨_, _, q1, q2⟩ := G w8 l48
    rw [hyx]
    repeat' (first | (simp (disch := omega) only [push_cast, ↓reduceIte, zA, zG, zB, zH, zI, zC, zJ, zK, zL, zD, zE, zF, zM, zN, zO, zP, zQ, reduceCtorEq, not_true_eq_false, not_false_eq_true, q1, q2]) | (first | refine vIfE_of ?_ ?_ | refine vIfD_of ?_ ?_ | refine vIfQ_of ?_ ?_ | refine vIfV_of ?_ ?_) <;> intro _ | refine And.intro (by omega) ?_ | refine drawn_q ?_ | fail)
    refine (rjoin_c x y w8 (E w8 (l04.trans l48)).1 (E w8 (l04.trans l48)).2 gx.rr.1 gy.rr.1 (by have := gx.rr.2.2; have := gy.rr.2.2; omega)).mono ?_
    rintro _ w9 ⟨j, er, rfl, hj, hE, l9⟩
    unfold elV
    repeat' (first | (simp (disch := omega) only [push_cast, ↓reduceIte, zA, zG, zB, zH, zI, zC, zJ, zK, zL, zD, zE, zF, zM, zN, zO, zP, zQ, reduceCtorEq, not_true_eq_false, not_false_eq_true]) | (first | refine vIfE_of ?_ ?_ | refine vIfD_of ?_ ?_ | refine vIfQ_of ?_ ?_ | refine vIfV_of ?_ ?_) <;> intro _ | refine And.intro (by omega) ?_ | refine drawn_q ?_ | fail)
    refine vStore_new rfl rfl (by intro u hu; exact elC_one hE.is u (by simpa [elC] using hu)) ?_
    have l10 := later_alloc w9 (.cells #[.int .i64 j.t, j.dv, .int .i64 j.n, j.av] 35)
    have B10 := Blk.new w9 #[.int .i64 j.t, j.dv, .int .i64 j.n, j.av] 35
    generalize w9.alloc (.cells #[.int .i64 j.t, j.dv, .int .i64 j.n, j.av] 35) = w10 at *
    generalize w9.heap.size = kj at *
    have l410 := (l48.trans l9).trans l10
    have hE10 := hE.is.later l10
    obtain ⟨_, _, q1, q2⟩ := G w10 l410
    repeat' (first | (simp (disch := omega) only [push_cast, ↓reduceIte, zA, zG, zB, zH, zI, zC, zJ, zK, zL, zD, zE, zF, zM, zN, zO, zP, zQ, reduceCtorEq, not_true_eq_false, not_false_eq_true, q1, q2]) | (first | refine vIfE_of ?_ ?_ | refine vIfD_of ?_ ?_ | refine vIfQ_of ?_ ?_ | refine vIfV_of ?_ ?_) <;> intro _ | refine And.intro (by omega) ?_ | refine drawn_q ?_ | fail)
    refine (djoin_c x y w10 (E w10 (l04.trans l410)).1 (E w10 (l04.trans l410)).2 gx.rr.1 gy.rr.1 (by have := gx.rr.2.2; have := gy.rr.2.2; omega)).mono ?_
    rintro _ w11 ⟨j2, er2, rfl, hj2, hE2, l11⟩
    obtain ⟨hee, hjj⟩ := JR.one hj hj2
    subst hee
    unfold elV
    repeat' (first | (simp (disch := omega) only [push_cast, ↓reduceIte, zA, zG, zB, zH, zI, zC, zJ, zK, zL, zD, zE, zF, zM, zN, zO, zP, zQ, reduceCtorEq, not_true_eq_false, not_false_eq_true]) | (first | refine vIfE_of ?_ ?_ | refine vIfD_of ?_ ?_ | refine vIfQ_of ?_ ?_ | refine vIfV_of ?_ ?_) <;> intro _ | refine And.intro (by omega) ?_ | refine drawn_q ?_ | fail)
    refine vStore_new rfl rfl (by intro u hu; exact elC_one hE2.is u (by simpa [elC] using hu)) ?_
    have l12 := later_alloc w11 (.cells #[.int .i64 j2.t, j2.dv, .int .i64 j2.n, j2.av] 35)
    have B12 := Blk.new w11 #[.int .i64 j2.t, j2.dv, .int .i64 j2.n, j2.av] 35
    generalize w11.alloc (.cells #[.int .i64 j2.t, j2.dv, .int .i64 j2.n, j2.av] 35) = w12 at *
    generalize w11.heap.size = kj2 at *
    have l412 := (l410.trans l11).trans l12
    have hJ : ∀ w', Later w12 w' → EIs w' j ∧ EIs w' j2 ∧ Go.Vc.cellsAt w' ⟨kj, 0, none⟩ 4 = some (elC j) ∧ Go.Vc.cellsAt w' ⟨kj2, 0, none⟩ 4 = some (elC j2) := fun w' hl => ⟨hE10.later ((l11.trans l12).trans hl), hE2.is.later (l12.trans hl), cellsAt_later ((l11.trans l12).trans hl) 4 (Blk.cellsAt (l := elC j) B10), cellsAt_later hl 4 (Blk.cellsAt (l := elC j2) B12)⟩
    clear B10 B12 hE10 hE hE2
    obtain ⟨oc, cc, rfl, _⟩ := RecS.slice (OwnR.s hco)
    have hcn : cs.length = 2 := by have := congrArg List.length hca; simpa using this
    repeat' (first | (simp (disch := omega) only [push_cast, ↓reduceIte, zA, zG, zB, zH, zI, zC, zJ, zK, zL, zD, zE, zF, zM, zN, zO, zP, zQ, reduceCtorEq, not_true_eq_false, not_false_eq_true]) | (first | refine vIfE_of ?_ ?_ | refine vIfD_of ?_ ?_ | refine vIfQ_of ?_ ?_ | refine vIfV_of ?_ ?_) <;> intro _ | refine And.intro (by omega) ?_ | refine drawn_q ?_ | fail)
    refine vSl_arr (s := 4) Try.underlying61 sz35 ?_
    repeat' (first | (simp (disch := omega) only [push_cast, ↓reduceIte, zA, zG, zB, zH, zI, zC, zJ, zK, zL, zD, zE, zF, zM, zN, zO, zP, zQ, reduceCtorEq, not_true_eq_false, not_false_eq_true]) | (first | refine vIfE_of ?_ ?_ | refine vIfD_of ?_ ?_ | refine vIfQ_of ?_ ?_ | refine vIfV_of ?_ ?_) <;> intro _ | refine And.intro (by omega) ?_ | refine drawn_q ?_ | fail)
    refine (dsame_c _ _ cs [x, y] w12 (RecS.later (OwnR.s hco) ((((l7.trans l8).trans l9).trans l10).trans (l11.trans l12))) (G w12 l412).2.1 (fun e he => (hcE e he).is.later ((((l7.trans l8).trans l9).trans l10).trans (l11.trans l12))) (fun e he => (Z w12 (l04.trans l412) e he).1)).mono ?_
    rintro _ w13 ⟨⟨t, rfl, ht⟩, l13⟩
    obtain rfl := ht.2 hca
    have l413 := l412.trans l13
    have l013 := l04.trans l413
    obtain ⟨_, _, q1, q2⟩ := G w13 l413
    obtain ⟨hj1, hj2', g1, g2⟩ := hJ w13 l13
    unfold elC at q1 q2 g1 g2
    repeat' (first | (simp (disch := omega) only [push_cast, ↓reduceIte, zA, zG, zB, zH, zI, zC, zJ, zK, zL, zD, zE, zF, zM, zN, zO, zP, zQ, reduceCtorEq, not_true_eq_false, not_false_eq_true]) | (first | refine vIfE_of ?_ ?_ | refine vIfD_of ?_ ?_ | refine vIfQ_of ?_ ?_ | refine vIfV_of ?_ ?_) <;> intro _ | refine And.intro (by omega) ?_ | fail)
    refine drawn_k 29 ?_
    repeat' (first | (simp (disch := omega) only [push_cast, ↓reduceIte, zA, zG, zB, zH, zI, zC, zJ, zK, zL, zD, zE, zF, zM, zN, zO, zP, zQ, reduceCtorEq, not_true_eq_false, not_false_eq_true]) | (first | refine vIfE_of ?_ ?_ | refine vIfD_of ?_ ?_ | refine vIfQ_of ?_ ?_ | refine vIfV_of ?_ ?_) <;> intro _ | refine And.intro (by omega) ?_ | fail)
    refine NFn.fix hb24 (v := .bool true) (fun w' _ => alive13_c w') ?_
    repeat' (first | (simp (disch := omega) only [push_cast, ↓reduceIte, zA, zG, zB, zH, zI, zC, zJ, zK, zL, zD, zE, zF, zM, zN, zO, zP, zQ, reduceCtorEq, not_true_eq_false, not_false_eq_true, q1, q2]) | (first | refine vIfE_of ?_ ?_ | refine vIfD_of ?_ ?_ | refine vIfQ_of ?_ ?_ | refine vIfV_of ?_ ?_) <;> intro _ | refine And.intro (by omega) ?_ | fail)
    refine NFn.fix hb34 (v := .int .i64 (ecmp x y)) (fun w' hl => rcompare_c x y w' (E w' (l013.trans hl)).1 (E w' (l013.trans hl)).2) ?_
    repeat' (first | (simp (disch := omega) only [push_cast, ↓reduceIte, zA, zG, zB, zH, zI, zC, zJ, zK, zL, zD, zE, zF, zM, zN, zO, zP, zQ, reduceCtorEq, not_true_eq_false, not_false_eq_true, hc, decide_true, q1, q2, g1, g2]) | (first | refine vIfE_of ?_ ?_ | refine vIfD_of ?_ ?_ | refine vIfQ_of ?_ ?_ | refine vIfV_of ?_ ?_) <;> intro _ | refine And.intro (by omega) ?_ | fail)
    refine NFn.fix hb29 (v := .bool (decide (j.abs = j2.abs))) (fun w' hl => one_c' j j2 w' (hj1.later hl) (hj2'.later hl)) ?_
    rw [decide_eq_true hjj]
    repeat' (first | (simp (disch := omega) only [push_cast, ↓reduceIte, zA, zG, zB, zH, zI, zC, zJ, zK, zL, zD, zE, zF, zM, zN, zO, zP, zQ, reduceCtorEq, not_true_eq_false, not_false_eq_true, decide_true, q1, q2]) | (first | refine vIfE_of ?_ ?_ | refine vIfD_of ?_ ?_ | refine vIfQ_of ?_ ?_ | refine vIfV_of ?_ ?_) <;> intro _ | refine And.intro (by omega) ?_ | fail)
    refine nB_of _ (LitV x) (stb_lit _ _) (fun w' hl => ?_) ?_
    · repeat' (first | (simp (disch := omega) only [push_cast, ↓reduceIte, zA, zG, zB, zH, zI, zC, zJ, zK, zL, zD, zE, zF, zM, zN, zO, zP, zQ, reduceCtorEq, not_true_eq_false, not_false_eq_true]) | (first | refine vIfE_of ?_ ?_ | refine vIfD_of ?_ ?_ | refine vIfQ_of ?_ ?_ | refine vIfV_of ?_ ?_) <;> intro _ | refine And.intro (by omega) ?_ | fail)
      exact ⟨later_alloc _ _, ⟨_, rfl⟩, RecS.lit1 (elC_len x) (Blk.new w' _ _)⟩
    repeat' (first | (simp (disch := omega) only [push_cast, ↓reduceIte, zA, zG, zB, zH, zI, zC, zJ, zK, zL, zD, zE, zF, zM, zN, zO, zP, zQ, reduceCtorEq, not_true_eq_false, not_false_eq_true, q1, q2]) | (first | refine vIfE_of ?_ ?_ | refine vIfD_of ?_ ?_ | refine vIfQ_of ?_ ?_ | refine vIfV_of ?_ ?_) <;> intro _ | refine And.intro (by omega) ?_ | fail)
    refine nB_of _ (LitV y) (stb_lit _ _) (fun w' hl => ?_) ?_
    · repeat' (first | (simp (disch := omega) only [push_cast, ↓reduceIte, zA, zG, zB, zH, zI, zC, zJ, zK, zL, zD, zE, zF, zM, zN, zO, zP, zQ, reduceCtorEq, not_true_eq_false, not_false_eq_true]) | (first | refine vIfE_of ?_ ?_ | refine vIfD_of ?_ ?_ | refine vIfQ_of ?_ ?_ | refine vIfV_of ?_ ?_) <;> intro _ | refine And.intro (by omega) ?_ | fail)
      exact ⟨later_alloc _ _, ⟨_, rfl⟩, RecS.lit1 (elC_len y) (Blk.new w' _ _)⟩
    repeat' (first | (simp (disch := omega) only [push_cast, ↓reduceIte, zA, zG, zB, zH, zI, zC, zJ, zK, zL, zD, zE, zF, zM, zN, zO, zP, zQ, reduceCtorEq, not_true_eq_false, not_false_eq_true]) | (first | refine vIfE_of ?_ ?_ | refine vIfD_of ?_ ?_ | refine vIfQ_of ?_ ?_ | refine vIfV_of ?_ ?_) <;> intro _ | refine And.intro (by omega) ?_ | fail)
    refine nR_fn hb38 (.bool (decide (x.abs = y.abs))) (fun σ' w' hl hp => ?_) ?_
    · obtain ⟨hp1, hp2, _⟩ := hp
      obtain ⟨_, hr1⟩ : LitV x (σ' 71) w' := hp1
      obtain ⟨_, hr2⟩ : LitV y (σ' 73) w' := hp2
      have ea : Array.map (ev σ') #[Operand.tmp 71, Operand.tmp 73] = #[σ' 71, σ' 73] := by simp [ev]
      rw [ea]
      refine (rsame_c _ _ [x] [y] w' hr1 hr2 (fun e he => by rw [List.mem_singleton.1 he]; exact (E w' (l013.trans hl)).1) (fun e he => by rw [List.mem_singleton.1 he]; exact (E w' (l013.trans hl)).2)).mono ?_
      rintro _ w'' ⟨⟨t, rfl, ht⟩, hl'⟩
      refine ⟨congrArg Value.bool ?_, hl'⟩
      rw [Bool.eq_iff_iff, ht]
      simp
    repeat' (first | (simp (disch := omega) only [push_cast, ↓reduceIte, zA, zG, zB, zH, zI, zC, zJ, zK, zL, zD, zE, zF, zM, zN, zO, zP, zQ, reduceCtorEq, not_true_eq_false, not_false_eq_true, q1, q2]) | (first | refine vIfE_of ?_ ?_ | refine vIfD_of ?_ ?_ | refine vIfQ_of ?_ ?_ | refine vIfV_of ?_ ?_) <;> intro _ | refine And.intro (by omega) ?_ | fail)
    intro w14 l14 _ _ _ _
    refine (one_c' x y w14 (E w14 (l013.trans l14)).1 (E w14 (l013.trans l14)).2).mono ?_
    rintro _ w15 ⟨rfl, l15⟩
    repeat' (first | (simp (disch := omega) only [push_cast, ↓reduceIte, zA, zG, zB, zH, zI, zC, zJ, zK, zL, zD, zE, zF, zM, zN, zO, zP, zQ, reduceCtorEq, not_true_eq_false, not_false_eq_true, decide_true]) | (first | refine vIfE_of ?_ ?_ | refine vIfD_of ?_ ?_ | refine vIfQ_of ?_ ?_ | refine vIfV_of ?_ ?_) <;> intro _ | refine And.intro (by omega) ?_ | refine drawn_q ?_ | fail)
    first | exact ⟨rfl, ((l013.trans l14).trans l15)⟩ | exact ((l013.trans l14).trans l15)
theorem own : ownKnob Try.prog.godebug = none := by kernel_rfl
theorem lifted (os : Os) (started : os.Started) (H : Type) (enc : TypeId × Value → H) :
    ReturnsInHanded {} Try.checked os 9 .any (Rows.rowsBothSpec.pre6 enc Try.prog Try.f9 Rows.rowsBothRow.domain false) (Rows.rowsBothSpec.post enc Try.prog Try.f9 false true false false) := by
  refine lifted_later (C := Try.checked) own started (by kernel_rfl) Try.func9 hb9
    (ChangeSpec.witness6 (enc := enc) (C := Try.checked) false ⟨#[], #[.agg #[.slice none 0 0, .slice none 0 0], .agg #[.int .i64 0, .slice none 0 0, .int .i64 0, .slice none 0 0, .int .i64 0, .slice none 0 0, .int .i64 0, .slice none 0 0]], []⟩ 9 (by kernel_rfl) (by kernel_rfl) (by kernel_rfl) (by kernel_rfl))
    (by kernel_rfl) (list_all (by kernel_rfl)) (by kernel_rfl) Try.underlying4 rfl ?_ ?_
  · intro ds h
    have h : ds.length = 2 := h
    match ds, h with
    | [_, _], _ => rfl
  · intro W base args ds p hval0 hA0
    have hval : ∀ (j : Nat) t v, Try.f9.params[j]? = some t → args[j]? = some v → Value.okWide Try.prog W .any base t v := hval0
    have hA : DataW.TrodAll enc Try.prog W 0 (fun _ => true) true Try.f9.params.toList args.toList ds p := hA0
    rw [Try.params9] at hA hval
    obtain ⟨v0, vs0, d0, ds0, p0, q0, hargs, rfl, rfl, h0, r0⟩ := trodAll_cons hA
    obtain ⟨v1, vs1, d1, ds1, p1, q1, rfl, rfl, rfl, h1, r1⟩ := trodAll_cons r0
    obtain ⟨rfl, rfl, rfl⟩ := trodAll_nil r1
    obtain rfl : args = #[v0, v1] := by cases args; simp_all
    obtain ⟨a0, w0⟩ := open_schema (hval 0 24 v0 rfl rfl) h0
    obtain ⟨a1, w1⟩ := open_row2 (hval 1 61 v1 rfl rfl) h1
    exact (by obtain ⟨rfl, hs⟩ := w0; obtain ⟨rfl, h1, h2⟩ := w1; exact law_c _ _ _ _ _ _ _ hs h1 h2)
theorem over : Rows.rowsBothRow.holds Try.pinned (OpenSpec.ofChange Rows.rowsBothSpec) :=
  OpenClaim.holds_of_wide 9 Try.f9 rfl rfl rfl rfl rfl rfl rfl ⟨rfl, rfl, rfl, rfl, rfl⟩ rfl rfl rfl rfl rfl (by kernel_rfl) Try.func9 (by kernel_rfl)
    (of_decide_eq_true (by kernel_rfl)) (by unfold Func.isWrapper; first | (rw [if_pos (by decide +kernel)]; kernel_rfl) | (rw [if_neg (by decide +kernel)]; exact ⟨rfl, rfl⟩))
    (fun os started H enc _ => lifted os started H enc)
/-- The statement. -/
theorem proved : Rows.RowsBothSaid :=
  over
end Go.Proofs.Ythihbgpaoldbjaa.rowsBoth
