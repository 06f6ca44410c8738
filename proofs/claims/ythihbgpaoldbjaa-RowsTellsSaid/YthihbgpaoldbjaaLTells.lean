/- RowsTells holds for every input: whether any row is right, and the row of any event, are as the document says, or the error. -/
import Derived.Test.YthihbgpaoldbjaaRows
import Derived.Test.YthihbgpaoldbjaaPartL
set_option linter.all false
open Nat renaming reduceEqDiff → zA, reducePow → zB, reduceMul → zC, reduceAdd → zD, reduceSub → zE, reduceLeDiff → zF
open Int renaming reduceToNat → zG, reducePow → zH, reduceNeg → zI, reduceMul → zJ, reduceAdd → zK, reduceSub → zL, reduceLT → zM, reduceLE → zN, reduceEq → zO, reduceMod → zP, reduceDiv → zQ
set_option linter.unusedSimpArgs false
namespace Go.Proofs.Ythihbgpaoldbjaa.rowsTells
open Go.Vc Go.Key Go.Fold Go.Stab Go.ChangeShapes Go.WideShapes Go.ChangeAt Go.RowKit
set_option maxRecDepth 100000
theorem box3s (w : World) (cs ds es : Array Value) (tc td te : TypeId) :
    Later w (((w.alloc (.cells cs tc)).alloc (.cells ds td)).alloc (.cells es te)) ∧ (w.alloc (.cells cs tc)).heap.size = w.heap.size + 1 ∧ ((w.alloc (.cells cs tc)).alloc (.cells ds td)).heap.size = w.heap.size + 2 ∧
    ∀ w', Later (((w.alloc (.cells cs tc)).alloc (.cells ds td)).alloc (.cells es te)) w' → Blk w' w.heap.size cs tc ∧ Blk w' (w.heap.size + 1) ds td ∧ Blk w' (w.heap.size + 2) es te := by
  have l1 := later_alloc w (.cells cs tc)
  have B1 := Blk.new w cs tc
  have s1 : (w.alloc (.cells cs tc)).heap.size = w.heap.size + 1 := World.size_alloc w _
  generalize w.alloc (.cells cs tc) = w1 at *
  have l2 := later_alloc w1 (.cells ds td)
  have B2 := Blk.new w1 ds td
  have s2 : (w1.alloc (.cells ds td)).heap.size = w1.heap.size + 1 := World.size_alloc w1 _
  generalize w1.alloc (.cells ds td) = w2 at *
  have l3 := later_alloc w2 (.cells es te)
  have B3 := Blk.new w2 es te
  generalize w2.alloc (.cells es te) = w3 at *
  rw [s1] at B2 s2
  rw [s2] at B3
  exact ⟨(l1.trans l2).trans l3, s1, s2, fun w' hl => ⟨B1.chg (Chg.of_later (ks := []) ((l2.trans l3).trans hl)) (by simp), B2.chg (Chg.of_later (ks := []) (l3.trans hl)) (by simp), B3.chg (Chg.of_later (ks := []) hl) (by simp)⟩⟩
set_option maxHeartbeats 1000000 in
theorem law_c (dv mv : Value) (d m : List ByteArray) (y : El) (e : Ev) (w : World) (h : ScIs w dv mv d m) (hy : ElQ w y) (he : EvIs w e ∧ StZ e.d) : FnC Try.prog 6 #[scV dv mv, elV y, evV e] w fun r w' => r = .bool true ∧ Later w w' := by
  obtain ⟨oa, ca, hyav, _⟩ := RecS.slice hy.is.2
  obtain ⟨ok, ck, hkv⟩ := Sl.slice he.1.kS
  rw [List.length_map] at hkv
  unfold scV elV evV
  refine enter6 _ _ _ ?_
  unfold B6
  obtain ⟨l1, s1, s2, F⟩ := box3s w #[dv, mv] #[.int .i64 y.t, y.dv, .int .i64 y.n, y.av] #[.int .i64 e.t, e.dv, e.kv] 24 35 49
  have eca : (Value.agg #[dv, mv]).cells = #[dv, mv] := rfl
  have ecb : (Value.agg #[.int .i64 y.t, y.dv, .int .i64 y.n, y.av]).cells = #[.int .i64 y.t, y.dv, .int .i64 y.n, y.av] := rfl
  have ecc : (Value.agg #[.int .i64 e.t, e.dv, e.kv]).cells = #[.int .i64 e.t, e.dv, e.kv] := rfl
  repeat' (first | (simp (disch := omega) only [push_cast, ↓reduceIte, zA, zG, zB, zH, zI, zC, zJ, zK, zL, zD, zE, zF, zM, zN, zO, zP, zQ, reduceCtorEq, not_true_eq_false, not_false_eq_true, eca, ecb, ecc, s1, s2]) | (first | refine vIfE_of ?_ ?_ | refine vIfD_of ?_ ?_ | refine vIfQ_of ?_ ?_ | refine vIfV_of ?_ ?_) <;> intro _ | refine And.intro (by omega) ?_ | fail)
  generalize (((w.alloc (.cells #[dv, mv] 24)).alloc (.cells #[.int .i64 y.t, y.dv, .int .i64 y.n, y.av] 35)).alloc (.cells #[.int .i64 e.t, e.dv, e.kv] 49)) = w1 at *
  have G : ∀ w', Later w1 w' → Go.Vc.cellsAt w' ⟨w.heap.size, 0, none⟩ 2 = some [dv, mv] ∧ Go.Vc.cellsAt w' ⟨w.heap.size + 1, 0, none⟩ 4 = some [.int .i64 y.t, y.dv, .int .i64 y.n, y.av] ∧ w'.cell? ⟨w.heap.size + 1, 1, none⟩ = some y.dv ∧ w'.cell? ⟨w.heap.size + 1, 3, none⟩ = some y.av ∧ Go.Vc.cellsAt w' ⟨w.heap.size + 2, 0, none⟩ 3 = some [.int .i64 e.t, e.dv, e.kv] ∧ w'.cell? ⟨w.heap.size + 2, 1, none⟩ = some e.dv ∧ w'.cell? ⟨w.heap.size + 2, 2, none⟩ = some e.kv := fun w' hl => by
    obtain ⟨q1, q2, q3⟩ := F w' hl
    exact ⟨Blk.cellsAt (l := [dv, mv]) q1, Blk.cellsAt (l := [.int .i64 y.t, y.dv, .int .i64 y.n, y.av]) q2, q2.cell 1, q2.cell 3, Blk.cellsAt (l := [.int .i64 e.t, e.dv, e.kv]) q3, q3.cell 1, q3.cell 2⟩
  clear F eca ecb ecc s1 s2
  obtain ⟨p0, p1, p2, p3, p4, p5, p6⟩ := G w1 (Later.refl _)
  repeat' (first | (simp (disch := omega) only [push_cast, ↓reduceIte, zA, zG, zB, zH, zI, zC, zJ, zK, zL, zD, zE, zF, zM, zN, zO, zP, zQ, reduceCtorEq, not_true_eq_false, not_false_eq_true, p0]) | (first | refine vIfE_of ?_ ?_ | refine vIfD_of ?_ ?_ | refine vIfQ_of ?_ ?_ | refine vIfV_of ?_ ?_) <;> intro _ | refine And.intro (by omega) ?_ | refine drawn_q ?_ | fail)
  refine (fits13_c dv mv (.slice none 0 0) d m [] w1 (h.later l1) (RecS.nil _) (by simp)).mono ?_
  rintro _ w2 ⟨rfl, l2⟩
  have l02 := l1.trans l2
  obtain ⟨p0, p1, p2, p3, p4, p5, p6⟩ := G w2 l2
  repeat' (first | (simp (disch := omega) only [push_cast, ↓reduceIte, zA, zG, zB, zH, zI, zC, zJ, zK, zL, zD, zE, zF, zM, zN, zO, zP, zQ, reduceCtorEq, not_true_eq_false, not_false_eq_true, p2, addr_add_eq, Nat.zero_add]) | (first | refine vIfE_of ?_ ?_ | refine vIfD_of ?_ ?_ | refine vIfQ_of ?_ ?_ | refine vIfV_of ?_ ?_) <;> intro _ | refine And.intro (by omega) ?_ | refine drawn_q ?_ | fail)
  refine (fits10_c y.dv y.d w2 (Sl.later hy.is.1 l02) hy.z).mono ?_
  rintro _ w0 ⟨rfl, h0⟩
  obtain rfl := h0.symm
  repeat' (first | (simp (disch := omega) only [push_cast, ↓reduceIte, zA, zG, zB, zH, zI, zC, zJ, zK, zL, zD, zE, zF, zM, zN, zO, zP, zQ, reduceCtorEq, not_true_eq_false, not_false_eq_true, p5, addr_add_eq, Nat.zero_add]) | (first | refine vIfE_of ?_ ?_ | refine vIfD_of ?_ ?_ | refine vIfQ_of ?_ ?_ | refine vIfV_of ?_ ?_) <;> intro _ | refine And.intro (by omega) ?_ | refine drawn_q ?_ | fail)
  refine (fits10_c e.dv e.d w2 (Sl.later he.1.dS l02) he.2).mono ?_
  rintro _ w0 ⟨rfl, h0⟩
  obtain rfl := h0.symm
  by_cases hF : F13 d m []
  case neg =>
    rw [decide_eq_false hF]
    repeat' (first | (simp (disch := omega) only [push_cast, ↓reduceIte, zA, zG, zB, zH, zI, zC, zJ, zK, zL, zD, zE, zF, zM, zN, zO, zP, zQ, reduceCtorEq, not_true_eq_false, not_false_eq_true]) | (first | refine vIfE_of ?_ ?_ | refine vIfD_of ?_ ?_ | refine vIfQ_of ?_ ?_ | refine vIfV_of ?_ ?_) <;> intro _ | refine And.intro (by omega) ?_ | refine drawn_q ?_ | fail)
    refine (alive13_c w2).mono ?_
    rintro _ w3 ⟨rfl, l3⟩
    repeat' (first | (simp (disch := omega) only [push_cast, ↓reduceIte, zA, zG, zB, zH, zI, zC, zJ, zK, zL, zD, zE, zF, zM, zN, zO, zP, zQ, reduceCtorEq, not_true_eq_false, not_false_eq_true]) | (first | refine vIfE_of ?_ ?_ | refine vIfD_of ?_ ?_ | refine vIfQ_of ?_ ?_ | refine vIfV_of ?_ ?_) <;> intro _ | refine And.intro (by omega) ?_ | refine drawn_q ?_ | fail)
    first | exact ⟨rfl, (l02.trans l3)⟩ | exact (l02.trans l3)
  rw [decide_eq_true hF]
  by_cases hP : F10 y.d
  case neg =>
    rw [decide_eq_false hP]
    repeat' (first | (simp (disch := omega) only [push_cast, ↓reduceIte, zA, zG, zB, zH, zI, zC, zJ, zK, zL, zD, zE, zF, zM, zN, zO, zP, zQ, reduceCtorEq, not_true_eq_false, not_false_eq_true]) | (first | refine vIfE_of ?_ ?_ | refine vIfD_of ?_ ?_ | refine vIfQ_of ?_ ?_ | refine vIfV_of ?_ ?_) <;> intro _ | refine And.intro (by omega) ?_ | refine drawn_q ?_ | fail)
    refine (alive13_c w2).mono ?_
    rintro _ w3 ⟨rfl, l3⟩
    repeat' (first | (simp (disch := omega) only [push_cast, ↓reduceIte, zA, zG, zB, zH, zI, zC, zJ, zK, zL, zD, zE, zF, zM, zN, zO, zP, zQ, reduceCtorEq, not_true_eq_false, not_false_eq_true]) | (first | refine vIfE_of ?_ ?_ | refine vIfD_of ?_ ?_ | refine vIfQ_of ?_ ?_ | refine vIfV_of ?_ ?_) <;> intro _ | refine And.intro (by omega) ?_ | refine drawn_q ?_ | fail)
    first | exact ⟨rfl, (l02.trans l3)⟩ | exact (l02.trans l3)
  rw [decide_eq_true hP]
  by_cases hE : F10 e.d
  case neg =>
    rw [decide_eq_false hE]
    repeat' (first | (simp (disch := omega) only [push_cast, ↓reduceIte, zA, zG, zB, zH, zI, zC, zJ, zK, zL, zD, zE, zF, zM, zN, zO, zP, zQ, reduceCtorEq, not_true_eq_false, not_false_eq_true]) | (first | refine vIfE_of ?_ ?_ | refine vIfD_of ?_ ?_ | refine vIfQ_of ?_ ?_ | refine vIfV_of ?_ ?_) <;> intro _ | refine And.intro (by omega) ?_ | refine drawn_q ?_ | fail)
    refine (alive13_c w2).mono ?_
    rintro _ w3 ⟨rfl, l3⟩
    repeat' (first | (simp (disch := omega) only [push_cast, ↓reduceIte, zA, zG, zB, zH, zI, zC, zJ, zK, zL, zD, zE, zF, zM, zN, zO, zP, zQ, reduceCtorEq, not_true_eq_false, not_false_eq_true]) | (first | refine vIfE_of ?_ ?_ | refine vIfD_of ?_ ?_ | refine vIfQ_of ?_ ?_ | refine vIfV_of ?_ ?_) <;> intro _ | refine And.intro (by omega) ?_ | refine drawn_q ?_ | fail)
    first | exact ⟨rfl, (l02.trans l3)⟩ | exact (l02.trans l3)
  rw [decide_eq_true hE]
  rw [hyav] at p3
  rw [hkv] at p6
  by_cases hA : 20 < y.a.length
  · have hd : decide ((20 : Int) < (y.a.length : Int)) = true := decide_eq_true (by omega)
    repeat' (first | (simp (disch := omega) only [push_cast, ↓reduceIte, zA, zG, zB, zH, zI, zC, zJ, zK, zL, zD, zE, zF, zM, zN, zO, zP, zQ, reduceCtorEq, not_true_eq_false, not_false_eq_true, p3, hd, addr_add_eq, Nat.zero_add]) | (first | refine vIfE_of ?_ ?_ | refine vIfD_of ?_ ?_ | refine vIfQ_of ?_ ?_ | refine vIfV_of ?_ ?_) <;> intro _ | refine And.intro (by omega) ?_ | refine drawn_q ?_ | fail)
    refine (alive13_c w2).mono ?_
    rintro _ w3 ⟨rfl, l3⟩
    repeat' (first | (simp (disch := omega) only [push_cast, ↓reduceIte, zA, zG, zB, zH, zI, zC, zJ, zK, zL, zD, zE, zF, zM, zN, zO, zP, zQ, reduceCtorEq, not_true_eq_false, not_false_eq_true]) | (first | refine vIfE_of ?_ ?_ | refine vIfD_of ?_ ?_ | refine vIfQ_of ?_ ?_ | refine vIfV_of ?_ ?_) <;> intro _ | refine And.intro (by omega) ?_ | refine drawn_q ?_ | fail)
    first | exact ⟨rfl, (l02.trans l3)⟩ | exact (l02.trans l3)
  have hd : decide ((20 : Int) < (y.a.length : Int)) = false := decide_eq_false (by omega)
  by_cases hK : 20 < e.k.length
  · have hd2 : decide ((20 : Int) < (e.k.length : Int)) = true := decide_eq_true (by omega)
    repeat' (first | (simp (disch := omega) only [push_cast, ↓reduceIte, zA, zG, zB, zH, zI, zC, zJ, zK, zL, zD, zE, zF, zM, zN, zO, zP, zQ, reduceCtorEq, not_true_eq_false, not_false_eq_true, p3, p6, hd, hd2, addr_add_eq, Nat.zero_add]) | (first | refine vIfE_of ?_ ?_ | refine vIfD_of ?_ ?_ | refine vIfQ_of ?_ ?_ | refine vIfV_of ?_ ?_) <;> intro _ | refine And.intro (by omega) ?_ | refine drawn_q ?_ | fail)
    refine (alive13_c w2).mono ?_
    rintro _ w3 ⟨rfl, l3⟩
    repeat' (first | (simp (disch := omega) only [push_cast, ↓reduceIte, zA, zG, zB, zH, zI, zC, zJ, zK, zL, zD, zE, zF, zM, zN, zO, zP, zQ, reduceCtorEq, not_true_eq_false, not_false_eq_true]) | (first | refine vIfE_of ?_ ?_ | refine vIfD_of ?_ ?_ | refine vIfQ_of ?_ ?_ | refine vIfV_of ?_ ?_) <;> intro _ | refine And.intro (by omega) ?_ | refine drawn_q ?_ | fail)
    first | exact ⟨rfl, (l02.trans l3)⟩ | exact (l02.trans l3)
  have hd2 : decide ((20 : Int) < (e.k.length : Int)) = false := decide_eq_false (by omega)
  obtain ⟨_, _, _, hs, _⟩ := hF
  have hdl : d.length ≤ 1000 := by have := hs.2.2.2.1; omega
  have hml : m.length ≤ 1000 := by have := hs.2.2.2.2; omega
  repeat' (first | (simp (disch := omega) only [push_cast, ↓reduceIte, zA, zG, zB, zH, zI, zC, zJ, zK, zL, zD, zE, zF, zM, zN, zO, zP, zQ, reduceCtorEq, not_true_eq_false, not_false_eq_true, p0, p3, p4, p6, hd, hd2, addr_add_eq, Nat.zero_add]) | (first | refine vIfE_of ?_ ?_ | refine vIfD_of ?_ ?_ | refine vIfQ_of ?_ ?_ | refine vIfV_of ?_ ?_) <;> intro _ | refine And.intro (by omega) ?_ | refine drawn_q ?_ | fail)
  refine (of_c dv mv d m e w2 (h.later l02) (he.1.later l02) hdl hml canyL_all).mono ?_
  rintro _ w3 ⟨x, f, rfl, hO, hX, l3⟩
  have l03 := l02.trans l3
  unfold elV
  repeat' (first | (simp (disch := omega) only [push_cast, ↓reduceIte, zA, zG, zB, zH, zI, zC, zJ, zK, zL, zD, zE, zF, zM, zN, zO, zP, zQ, reduceCtorEq, not_true_eq_false, not_false_eq_true]) | (first | refine vIfE_of ?_ ?_ | refine vIfD_of ?_ ?_ | refine vIfQ_of ?_ ?_ | refine vIfV_of ?_ ?_) <;> intro _ | refine And.intro (by omega) ?_ | refine drawn_q ?_ | fail)
  refine vStore_new rfl rfl (by intro u hu; exact elC_one hX.is u (by simpa [elC] using hu)) ?_
  have l4 := later_alloc w3 (.cells #[.int .i64 x.t, x.dv, .int .i64 x.n, x.av] 35)
  have B4 := Blk.new w3 #[.int .i64 x.t, x.dv, .int .i64 x.n, x.av] 35
  generalize w3.alloc (.cells #[.int .i64 x.t, x.dv, .int .i64 x.n, x.av] 35) = w4 at *
  generalize w3.heap.size = kx at *
  have l04 := l03.trans l4
  obtain ⟨p0, p1, p2, p3, p4, p5, p6⟩ := G w4 ((l2.trans l3).trans l4)
  repeat' (first | (simp (disch := omega) only [push_cast, ↓reduceIte, zA, zG, zB, zH, zI, zC, zJ, zK, zL, zD, zE, zF, zM, zN, zO, zP, zQ, reduceCtorEq, not_true_eq_false, not_false_eq_true, p0, p4]) | (first | refine vIfE_of ?_ ?_ | refine vIfD_of ?_ ?_ | refine vIfQ_of ?_ ?_ | refine vIfV_of ?_ ?_) <;> intro _ | refine And.intro (by omega) ?_ | refine drawn_q ?_ | fail)
  refine (dof_c dv mv d m e w4 (h.later l04) (he.1.later l04) hdl hml he.2).mono ?_
  rintro _ w5 ⟨z, g, rfl, hO2, hZ, l5⟩
  have l05 := l04.trans l5
  have hfg : f = g := hO.1.trans hO2.1.symm
  subst hfg
  have habs : x.abs = z.abs := by
    rcases hO.2 with ⟨a1, a2⟩ | ⟨a1, a2⟩ <;> rcases hO2.2 with ⟨b1, b2⟩ | ⟨b1, b2⟩
    · exact a2.trans b2.symm
    · exact absurd b1 a1
    · exact absurd a1 b1
    · exact a2.trans b2.symm
  unfold elV
  repeat' (first | (simp (disch := omega) only [push_cast, ↓reduceIte, zA, zG, zB, zH, zI, zC, zJ, zK, zL, zD, zE, zF, zM, zN, zO, zP, zQ, reduceCtorEq, not_true_eq_false, not_false_eq_true]) | (first | refine vIfE_of ?_ ?_ | refine vIfD_of ?_ ?_ | refine vIfQ_of ?_ ?_ | refine vIfV_of ?_ ?_) <;> intro _ | refine And.intro (by omega) ?_ | refine drawn_q ?_ | fail)
  refine vStore_new rfl rfl (by intro u hu; exact elC_one hZ.is u (by simpa [elC] using hu)) ?_
  have l6 := later_alloc w5 (.cells #[.int .i64 z.t, z.dv, .int .i64 z.n, z.av] 35)
  have B6 := Blk.new w5 #[.int .i64 z.t, z.dv, .int .i64 z.n, z.av] 35
  generalize w5.alloc (.cells #[.int .i64 z.t, z.dv, .int .i64 z.n, z.av] 35) = w6 at *
  generalize w5.heap.size = kz at *
  have l06 := l05.trans l6
  have hxi : EIs w6 x := hX.is.later ((l4.trans l5).trans l6)
  have hzi : EIs w6 z := hZ.is.later l6
  have qx := cellsAt_later (l5.trans l6) 4 (Blk.cellsAt (l := [.int .i64 x.t, x.dv, .int .i64 x.n, x.av]) B4)
  have qz : Go.Vc.cellsAt w6 ⟨kz, 0, none⟩ 4 = some [.int .i64 z.t, z.dv, .int .i64 z.n, z.av] := Blk.cellsAt (l := [.int .i64 z.t, z.dv, .int .i64 z.n, z.av]) B6
  obtain ⟨p0, p1, p2, p3, p4, p5, p6⟩ := G w6 ((((l2.trans l3).trans l4).trans l5).trans l6)
  have hff : decide (f = f) = true := decide_eq_true rfl
  repeat' (first | (simp (disch := omega) only [push_cast, ↓reduceIte, zA, zG, zB, zH, zI, zC, zJ, zK, zL, zD, zE, zF, zM, zN, zO, zP, zQ, reduceCtorEq, not_true_eq_false, not_false_eq_true]) | (first | refine vIfE_of ?_ ?_ | refine vIfD_of ?_ ?_ | refine vIfQ_of ?_ ?_ | refine vIfV_of ?_ ?_) <;> intro _ | refine And.intro (by omega) ?_ | fail)
  refine drawn_q ?_
  repeat' (first | (simp (disch := omega) only [push_cast, ↓reduceIte, zA, zG, zB, zH, zI, zC, zJ, zK, zL, zD, zE, zF, zM, zN, zO, zP, zQ, reduceCtorEq, not_true_eq_false, not_false_eq_true]) | (first | refine vIfE_of ?_ ?_ | refine vIfD_of ?_ ?_ | refine vIfQ_of ?_ ?_ | refine vIfV_of ?_ ?_) <;> intro _ | refine And.intro (by omega) ?_ | fail)
  refine QFn.of hb24 (v := .bool true) (fun w' _ => alive13_c w') ?_
  repeat' (first | (simp (disch := omega) only [push_cast, ↓reduceIte, zA, zG, zB, zH, zI, zC, zJ, zK, zL, zD, zE, zF, zM, zN, zO, zP, zQ, reduceCtorEq, not_true_eq_false, not_false_eq_true, p0, p1, qx, qz]) | (first | refine vIfE_of ?_ ?_ | refine vIfD_of ?_ ?_ | refine vIfQ_of ?_ ?_ | refine vIfV_of ?_ ?_) <;> intro _ | refine And.intro (by omega) ?_ | fail)
  refine QFn.of hb27 (v := .bool (decide (RtOk d.length m.length y))) (fun w' hl => rowright_c dv mv d m y w' (h.later (l06.trans hl)) (hy.is.later (l06.trans hl)) canyL_all) ?_
  repeat' (first | (simp (disch := omega) only [push_cast, ↓reduceIte, zA, zG, zB, zH, zI, zC, zJ, zK, zL, zD, zE, zF, zM, zN, zO, zP, zQ, reduceCtorEq, not_true_eq_false, not_false_eq_true, p0, p1, qx, qz]) | (first | refine vIfE_of ?_ ?_ | refine vIfD_of ?_ ?_ | refine vIfQ_of ?_ ?_ | refine vIfV_of ?_ ?_) <;> intro _ | refine And.intro (by omega) ?_ | fail)
  refine QFn.of hb28 (v := .bool (decide (RtOk d.length m.length y))) (fun w' hl => dright_c dv mv d m y w' (h.later (l06.trans hl)) (hy.is.later (l06.trans hl)) hy.z) ?_
  generalize decide (RtOk d.length m.length y) = tt
  have htt : decide (tt = tt) = true := decide_eq_true rfl
  have htt2 : (tt == tt) = true := beq_self_eq_true tt
  repeat' (first | (simp (disch := omega) only [push_cast, ↓reduceIte, zA, zG, zB, zH, zI, zC, zJ, zK, zL, zD, zE, zF, zM, zN, zO, zP, zQ, reduceCtorEq, not_true_eq_false, not_false_eq_true, p0, p1, qx, qz, htt, htt2]) | (first | refine vIfE_of ?_ ?_ | refine vIfD_of ?_ ?_ | refine vIfQ_of ?_ ?_ | refine vIfV_of ?_ ?_) <;> intro _ | refine And.intro (by omega) ?_ | fail)
  refine QFn.of hb29 (v := .bool (decide (x.abs = z.abs))) (fun w' hl => one_c' x z w' (hxi.later hl) (hzi.later hl)) ?_
  rw [decide_eq_true habs]
  repeat' (first | (simp (disch := omega) only [push_cast, ↓reduceIte, zA, zG, zB, zH, zI, zC, zJ, zK, zL, zD, zE, zF, zM, zN, zO, zP, zQ, reduceCtorEq, not_true_eq_false, not_false_eq_true, hff]) | (first | refine vIfE_of ?_ ?_ | refine vIfD_of ?_ ?_ | refine vIfQ_of ?_ ?_ | refine vIfV_of ?_ ?_) <;> intro _ | refine And.intro (by omega) ?_ | fail)
  intro w7 l7
  repeat' (first | (simp (disch := omega) only [push_cast, ↓reduceIte, zA, zG, zB, zH, zI, zC, zJ, zK, zL, zD, zE, zF, zM, zN, zO, zP, zQ, reduceCtorEq, not_true_eq_false, not_false_eq_true, hff]) | (first | refine vIfE_of ?_ ?_ | refine vIfD_of ?_ ?_ | refine vIfQ_of ?_ ?_ | refine vIfV_of ?_ ?_) <;> intro _ | refine And.intro (by omega) ?_ | refine drawn_q ?_ | fail)
  exact l06.trans l7
theorem own : ownKnob Try.prog.godebug = none := by kernel_rfl
theorem lifted (os : Os) (started : os.Started) (H : Type) (enc : TypeId × Value → H) :
    ReturnsInHanded {} Try.checked os 6 .any (Rows.rowsTellsSpec.pre6 enc Try.prog Try.f6 Rows.rowsTellsRow.domain false) (Rows.rowsTellsSpec.post enc Try.prog Try.f6 false true false false) := by
  refine lifted_later (C := Try.checked) own started (by kernel_rfl) Try.func6 hb6
    (ChangeSpec.witness6 (enc := enc) (C := Try.checked) false ⟨#[], #[.agg #[.slice none 0 0, .slice none 0 0], .agg #[.int .i64 0, .slice none 0 0, .int .i64 0, .slice none 0 0], .agg #[.int .i64 0, .slice none 0 0, .slice none 0 0]], []⟩ 6 (by kernel_rfl) (by kernel_rfl) (by kernel_rfl) (by kernel_rfl))
    (by kernel_rfl) (list_all (by kernel_rfl)) (by kernel_rfl) Try.underlying4 rfl ?_ ?_
  · intro ds h
    have h : ds.length = 3 := h
    match ds, h with
    | [_, _, _], _ => rfl
  · intro W base args ds p hval0 hA0
    have hval : ∀ (j : Nat) t v, Try.f6.params[j]? = some t → args[j]? = some v → Value.okWide Try.prog W .any base t v := hval0
    have hA : DataW.TrodAll enc Try.prog W 0 (fun _ => true) true Try.f6.params.toList args.toList ds p := hA0
    rw [Try.params6] at hA hval
    obtain ⟨v0, vs0, d0, ds0, p0, q0, hargs, rfl, rfl, h0, r0⟩ := trodAll_cons hA
    obtain ⟨v1, vs1, d1, ds1, p1, q1, rfl, rfl, rfl, h1, r1⟩ := trodAll_cons r0
    obtain ⟨v2, vs2, d2, ds2, p2, q2, rfl, rfl, rfl, h2, r2⟩ := trodAll_cons r1
    obtain ⟨rfl, rfl, rfl⟩ := trodAll_nil r2
    obtain rfl : args = #[v0, v1, v2] := by cases args; simp_all
    obtain ⟨a0, w0⟩ := open_schema (hval 0 24 v0 rfl rfl) h0
    obtain ⟨a1, w1⟩ := open_row (hval 1 35 v1 rfl rfl) h1
    obtain ⟨a2, w2⟩ := open_event (hval 2 49 v2 rfl rfl) h2
    exact (by obtain ⟨rfl, hs⟩ := w0; obtain ⟨rfl, hy⟩ := w1; obtain ⟨rfl, he⟩ := w2; exact law_c _ _ _ _ _ _ _ hs hy he)
theorem over : Rows.rowsTellsRow.holds Try.pinned (OpenSpec.ofChange Rows.rowsTellsSpec) :=
  OpenClaim.holds_of_wide 6 Try.f6 rfl rfl rfl rfl rfl rfl rfl ⟨rfl, rfl, rfl, rfl, rfl⟩ rfl rfl rfl rfl rfl (by kernel_rfl) Try.func6 (by kernel_rfl)
    (of_decide_eq_true (by kernel_rfl)) (by unfold Func.isWrapper; first | (rw [if_pos (by decide +kernel)]; kernel_rfl) | (rw [if_neg (by decide +kernel)]; exact ⟨rfl, rfl⟩))
    (fun os started H enc _ => lifted os started H enc)
/-- The statement. -/
theorem proved : Rows.RowsTellsSaid :=
  over
end Go.Proofs.Ythihbgpaoldbjaa.rowsTells
