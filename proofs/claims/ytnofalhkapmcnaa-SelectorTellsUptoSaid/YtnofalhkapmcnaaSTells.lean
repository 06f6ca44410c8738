/- 'SelectorTells', the second form: for any right manifest and any typed query of small bulk the program's stretches, whether cuboids are eligible, and plans are the document's. -/
import Derived.Test.YtnofalhkapmcnaaPartM
set_option linter.all false
open Nat renaming reduceEqDiff → zA, reducePow → zB, reduceMul → zC, reduceAdd → zD, reduceSub → zE, reduceLeDiff → zF
open Int renaming reduceToNat → zG, reducePow → zH, reduceNeg → zI, reduceMul → zJ, reduceAdd → zK, reduceSub → zL, reduceLT → zM, reduceLE → zN, reduceEq → zO, reduceMod → zP, reduceDiv → zQ
set_option linter.unusedSimpArgs false
namespace Go.Proofs.Ytnofalhkapmcnaa.selectorTells
open Go.Vc Go.Key Go.Bkt Go.RowKit Go.ChangeShapes
set_option maxRecDepth 100000
set_option maxHeartbeats 4000000 in
theorem law_c (m : MD) (q : QD) (w : World) (hm : m.Ok w) (hq : q.Ok w) (hd : m.dl.length ≤ 2000000) (hml : m.ml.length ≤ 2000000) : FnC Try.prog 3 #[.agg (mdC m).toArray, .agg (qdC q).toArray] w fun v w' => v = .bool true ∧ Later w w' := by
  refine enter3 _ _ ?_
  unfold B3
  have eca : (Value.agg (mdC m).toArray).cells = (mdC m).toArray := rfl
  have ecb : (Value.agg (qdC q).toArray).cells = (qdC q).toArray := rfl
  obtain ⟨k0, hk0⟩ : ∃ k0, k0 = w.heap.size := ⟨_, rfl⟩
  have la := later_alloc w (.cells (mdC m).toArray 34)
  have Ba := Blk.new w (mdC m).toArray 34
  have sa : (w.alloc (.cells (mdC m).toArray 34)).heap.size = k0 + 1 := by rw [World.size_alloc, hk0]
  rw [← hk0] at Ba
  generalize hwa : w.alloc (.cells (mdC m).toArray 34) = wa at *
  have lb := later_alloc wa (.cells (qdC q).toArray 42)
  have Bb := Blk.new wa (qdC q).toArray 42
  rw [sa] at Bb
  generalize hwb : wa.alloc (.cells (qdC q).toArray 42) = w1 at *
  repeat' (first | (simp (disch := omega) only [push_cast, ↓reduceIte, zA, zG, zB, zH, zI, zC, zJ, zK, zL, zD, zE, zF, zM, zN, zO, zP, zQ, reduceCtorEq, not_true_eq_false, not_false_eq_true, eca, ecb, hwa, sa, hwb, ← hk0]) | (first | refine iE ?_ ?_ | refine iD ?_ ?_ | refine iQ ?_ ?_ | refine iV ?_ ?_) <;> intro _ | refine And.intro (by omega) ?_ | fail)
  have l01 := la.trans lb
  have FF := boxF (mdLater Ba lb) Bb
  clear hwa hwb sa la lb Ba Bb hk0
  have F1 := FF w1 (Later.refl _)
  have g1 := F1.mc
  have g2 := F1.qc
  repeat' (first | (simp (disch := omega) only [push_cast, ↓reduceIte, zA, zG, zB, zH, zI, zC, zJ, zK, zL, zD, zE, zF, zM, zN, zO, zP, zQ, reduceCtorEq, not_true_eq_false, not_false_eq_true, g1, g2]) | (first | refine iE ?_ ?_ | refine iD ?_ ?_ | refine iQ ?_ ?_ | refine iV ?_ ?_) <;> intro _ | refine And.intro (by omega) ?_ | fail)
  refine (fits26_c m q w1 (hm.later l01) (hq.later l01) hd hml).mono ?_
  rintro _ w2 ⟨⟨b, rfl, hb⟩, l2⟩
  have l02 := l01.trans l2
  cases b with
  | false =>
    repeat' (first | (simp (disch := omega) only [push_cast, ↓reduceIte, zA, zG, zB, zH, zI, zC, zJ, zK, zL, zD, zE, zF, zM, zN, zO, zP, zQ, reduceCtorEq, not_true_eq_false, not_false_eq_true]) | (first | refine iE ?_ ?_ | refine iD ?_ ?_ | refine iQ ?_ ?_ | refine iV ?_ ?_) <;> intro _ | refine And.intro (by omega) ?_ | fail)
    refine (alive26_c w2).mono ?_
    rintro _ w3 ⟨rfl, l3⟩
    repeat' (first | (simp (disch := omega) only [push_cast, ↓reduceIte, zA, zG, zB, zH, zI, zC, zJ, zK, zL, zD, zE, zF, zM, zN, zO, zP, zQ, reduceCtorEq, not_true_eq_false, not_false_eq_true]) | (first | refine iE ?_ ?_ | refine iD ?_ ?_ | refine iQ ?_ ?_ | refine iV ?_ ?_) <;> intro _ | refine And.intro (by omega) ?_ | refine drawn_q ?_ | fail)
    first | exact ⟨rfl, (l02.trans l3)⟩ | exact (l02.trans l3)
  | true =>
  have k := (hb rfl).know
  clear hb g1 g2 F1
  have F2 := FF w2 l2
  have g1 := F2.pc
  have g2 := F2.qc
  have g3 := F2.ev
  repeat' (first | (simp (disch := omega) only [push_cast, ↓reduceIte, zA, zG, zB, zH, zI, zC, zJ, zK, zL, zD, zE, zF, zM, zN, zO, zP, zQ, reduceCtorEq, not_true_eq_false, not_false_eq_true, g1, g2, g3, addr_add_eq, Nat.zero_add]) | (first | refine iE ?_ ?_ | refine iD ?_ ?_ | refine iQ ?_ ?_ | refine iV ?_ ?_) <;> intro _ | refine And.intro (by omega) ?_ | fail)
  refine (dstretches_c m.p m.ev m.el q w2 (hm.p.later l02) (Sl.later hm.ev l02) (hq.later l02) k.el (by have := k.tl; omega)).mono ?_
  rintro lv w3 ⟨hL, l3⟩
  have hL := OwnR.s hL
  have hLl := strL_len q.fr q.to m.el m.p.tl.length
  have hLm := LL26.mem k hm hq
  have hbest := best_same k hm hq
  have hLd : strL q.fr q.to m.el m.p.tl.length = LL26 m q := rfl
  rw [hLd] at hL hLl
  obtain ⟨lo, lc, rfl, hl1, hl2⟩ := RecS.slice hL
  have l13 := l2.trans l3
  have l03 := l01.trans l13
  have F3 := FF w3 l13
  have g1 := F3.pc
  have g2 := F3.qc
  have g3 := F3.ev
  repeat' (first | (simp (disch := omega) only [push_cast, ↓reduceIte, zA, zG, zB, zH, zI, zC, zJ, zK, zL, zD, zE, zF, zM, zN, zO, zP, zQ, reduceCtorEq, not_true_eq_false, not_false_eq_true, g1, g2, g3, addr_add_eq, Nat.zero_add]) | (first | refine iE ?_ ?_ | refine iD ?_ ?_ | refine iQ ?_ ?_ | refine iV ?_ ?_) <;> intro _ | refine And.intro (by omega) ?_ | fail)
  refine (stretches_c m.p m.ev m.el q w3 (hm.p.later l03) (Sl.later hm.ev l03) (hq.later l03) k.el k.fall (by have := k.tl; omega)).mono ?_
  rintro sv w4 ⟨hS, l4⟩
  have hS := OwnR.s hS
  rw [hLd] at hS
  repeat' (first | (simp (disch := omega) only [push_cast, ↓reduceIte, zA, zG, zB, zH, zI, zC, zJ, zK, zL, zD, zE, zF, zM, zN, zO, zP, zQ, reduceCtorEq, not_true_eq_false, not_false_eq_true]) | (first | refine iE ?_ ?_ | refine iD ?_ ?_ | refine iQ ?_ ?_ | refine iV ?_ ?_) <;> intro _ | refine And.intro (by omega) ?_ | fail)
  refine (plans_c sv _ (LL26 m q) (LL26 m q) w4 hS (hL.later l4)).mono ?_
  rintro _ w5 ⟨rfl, l5⟩
  have l35 := l4.trans l5
  have l15 := l13.trans l35
  have hL5 := hL.later l35
  have hLe : strL q.fr q.to m.el m.p.tl.length = LL26 m q := rfl
  generalize LL26 m q = L at *
  repeat' (first | (simp (disch := omega) only [push_cast, ↓reduceIte, zA, zG, zB, zH, zI, zC, zJ, zK, zL, zD, zE, zF, zM, zN, zO, zP, zQ, reduceCtorEq, not_true_eq_false, not_false_eq_true, decide_true]) | (first | refine iE ?_ ?_ | refine iD ?_ ?_ | refine iQ ?_ ?_ | refine iV ?_ ?_) <;> intro _ | refine And.intro (by omega) ?_ | fail)
  refine vc_loop W3_0 (fun i : Nat => [(7, .int .i64 (i : Int))]) (fun i w' => i ≤ L.length ∧ Later w5 w') (fun i => L.length - i) 0 (by decide) ?_ ?_ ?_
  · simp (disch := omega) only [push_cast, ↓reduceIte, zA, zG, zB, zH, zI, zC, zJ, zK, zL, zD, zE, zF, zM, zN, zO, zP, zQ, reduceCtorEq, not_true_eq_false, not_false_eq_true]
    try rfl
  · exact ⟨Nat.zero_le _, Later.refl _⟩
  rintro i uu w6 ⟨hi, l6⟩
  by_cases hik : i < L.length
  · have hd2 : decide ((i : Int) < (L.length : Int)) = true := decide_eq_true (by omega)
    have hFA : ∀ w', Later w5 w' → ∃ a, lo = some a ∧ cellsAt w' (a.add (i * 5)) 5 = some (pnC L[i]) := fun w' hl => RecS.at pnC_len (hL5.later hl) hik
    obtain ⟨hxin, hxf, hxt, _⟩ := hLm _ (List.getElem_mem hik)
    generalize L[i] = x at *
    repeat' (first | (simp (disch := omega) only [push_cast, ↓reduceIte, zA, zG, zB, zH, zI, zC, zJ, zK, zL, zD, zE, zF, zM, zN, zO, zP, zQ, reduceCtorEq, not_true_eq_false, not_false_eq_true, hd2]) | (first | refine iE ?_ ?_ | refine iD ?_ ?_ | refine iQ ?_ ?_ | refine iV ?_ ?_) <;> intro _ | refine And.intro (by omega) ?_ | fail)
    refine vc_loop W3_1 (fun k : Nat => [(8, .int .i64 ((k : Int) - 1))]) (fun k w' => k ≤ m.p.pl.length + 1 ∧ Later w5 w') (fun k => m.p.pl.length + 1 - k) 0 (by decide) ?_ ?_ ?_
    · simp (disch := omega) only [push_cast, ↓reduceIte, zA, zG, zB, zH, zI, zC, zJ, zK, zL, zD, zE, zF, zM, zN, zO, zP, zQ, reduceCtorEq, not_true_eq_false, not_false_eq_true]
      try rfl
    · exact ⟨Nat.zero_le _, l6⟩
    rintro j uu2 w7 ⟨hj, l7⟩
    have F7 := FF w7 (l15.trans l7)
    obtain ⟨po, pc, hpv, hp1, hp2⟩ := RecS.slice hm.p.pv
    have g1 := F7.pp
    rw [hpv] at g1
    by_cases hjk : j < m.p.pl.length + 1
    · have hd3 : decide ((j : Int) - 1 < (m.p.pl.length : Int)) = true := decide_eq_true (by omega)
      obtain ⟨a, rfl, fa⟩ := hFA w7 l7
      repeat' (first | (simp (disch := omega) only [push_cast, ↓reduceIte, zA, zG, zB, zH, zI, zC, zJ, zK, zL, zD, zE, zF, zM, zN, zO, zP, zQ, reduceCtorEq, not_true_eq_false, not_false_eq_true, hd2, hd3, g1, fa, addr_add_eq, Nat.zero_add]) | (first | refine iE ?_ ?_ | refine iD ?_ ?_ | refine iQ ?_ ?_ | refine iV ?_ ?_) <;> intro _ | refine And.intro (by omega) ?_ | fail)
      refine vStore_new rfl rfl (fun u hu => pnC_one x u (by simpa using hu)) ?_
      have l8 := later_alloc w7 (.cells (pnC x).toArray 49)
      have B8 := Blk.new w7 (pnC x).toArray 49
      have z8 := l7.size
      generalize w7.alloc (.cells (pnC x).toArray 49) = w8 at *
      generalize w7.heap.size = kx at *
      have l58 := l7.trans l8
      obtain ⟨_, _, _, y3, _⟩ := pnB B8
      have fz := B8.frozen 3
      have B9 := B8.set 3 (.int .i64 ((j : Int) - 1))
      have c9 : Chg w8 (w8.setCell ⟨kx, 3, none⟩ (.int .i64 ((j : Int) - 1))) [kx] := chg_setCell w8 (by simp) _
      have B9 : Blk (w8.setCell ⟨kx, 3, none⟩ (.int .i64 ((j : Int) - 1))) kx (pnC { x with proj := (j : Int) - 1 }).toArray 49 := B9
      repeat' (first | (simp (disch := omega) only [push_cast, ↓reduceIte, zA, zG, zB, zH, zI, zC, zJ, zK, zL, zD, zE, zF, zM, zN, zO, zP, zQ, reduceCtorEq, not_true_eq_false, not_false_eq_true, y3, fz, addr_add_eq, Nat.zero_add]) | (first | refine iE ?_ ?_ | refine iD ?_ ?_ | refine iQ ?_ ?_ | refine iV ?_ ?_) <;> intro _ | refine And.intro (by omega) ?_ | fail)
      generalize w8.setCell ⟨kx, 3, none⟩ (.int .i64 ((j : Int) - 1)) = w9 at *
      have l59 := Chg.later l58 c9 (by intro j hj; rw [List.mem_singleton.1 hj]; exact z8)
      have l19 := l15.trans l59
      have l09 := l01.trans l19
      have F9 := FF w9 l19
      have q1 := F9.pp
      have q2 := F9.sc
      have q3 := F9.pc
      have q4 := F9.qc
      rw [hpv] at q1
      obtain ⟨_, _, y2, _, _⟩ := pnB B9
      have y2 : w9.cell? ⟨kx, 2, none⟩ = some (.int .i64 x.tier) := y2
      have fy : cellsAt w9 ⟨kx, 0, none⟩ 5 = some (pnC { x with proj := (j : Int) - 1 }) := Blk.cellsAt (l := pnC { x with proj := (j : Int) - 1 }) B9
      have ej : (j : Int) - 1 + 1 = ((j + 1 : Nat) : Int) - 1 := by omega
      have step : ∀ w', Later w9 w' → j + 1 ≤ m.p.pl.length + 1 ∧ Later w5 w' := fun w' hl => ⟨by omega, l59.trans hl⟩
      have hyin : PnIn m.p { x with proj := (j : Int) - 1 } := ⟨hxin.t, by show (-1 : Int) ≤ (j : Int) - 1 ∧ (j : Int) - 1 < _; omega⟩
      -- both answers, behind the test
      have both : ∀ w', Later w9 w' → cellsAt w' ⟨kx, 0, none⟩ 5 = some (pnC { x with proj := (j : Int) - 1 }) ∧ BoxF m q k0 (k0 + 1) w' ∧ Later w w' := fun w' hl => ⟨cellsAt_later hl 5 fy, FF w' (l19.trans hl), l09.trans hl⟩
      by_cases hj0 : (0 : Int) ≤ (j : Int) - 1
      · have d1 := decide_eq_true hj0
        have t1 : ((j : Int) - 1).toNat < m.p.pl.length := by omega
        have h4 := (hm.p.later l09).pv
        rw [hpv] at h4
        obtain ⟨pa, rfl, _⟩ := RecS.at cdC_len h4 t1
        have t0 := RecS.cell (j := 0) cdC_len h4 t1 rfl
        rw [addr_add_zero] at t0
        generalize (m.p.pl[((j : Int) - 1).toNat]).a = PA at *
        by_cases hpa : PA = x.tier
        · have d2 := decide_eq_true hpa
          repeat' (first | (simp (disch := omega) only [push_cast, ↓reduceIte, zA, zG, zB, zH, zI, zC, zJ, zK, zL, zD, zE, zF, zM, zN, zO, zP, zQ, reduceCtorEq, not_true_eq_false, not_false_eq_true, d1, hd3]) | (first | refine iE ?_ ?_ | refine iD ?_ ?_ | refine iQ ?_ ?_ | refine iV ?_ ?_) <;> intro _ | refine And.intro (by omega) ?_ | fail)
          refine drawn_q ?_
          repeat' (first | (simp (disch := omega) only [push_cast, ↓reduceIte, zA, zG, zB, zH, zI, zC, zJ, zK, zL, zD, zE, zF, zM, zN, zO, zP, zQ, reduceCtorEq, not_true_eq_false, not_false_eq_true, d1, d2, hd3, q1, t0, y2, addr_add_eq, Nat.zero_add]) | (first | refine iE ?_ ?_ | refine iD ?_ ?_ | refine iQ ?_ ?_ | refine iV ?_ ?_) <;> intro _ | refine And.intro (by omega) ?_ | fail)
          intro w10 l10
          obtain ⟨fy, F10, l010⟩ := both w10 l10
          have q2 := F10.sc
          have q3 := F10.pc
          have q4 := F10.qc
          repeat' (first | (simp (disch := omega) only [push_cast, ↓reduceIte, zA, zG, zB, zH, zI, zC, zJ, zK, zL, zD, zE, zF, zM, zN, zO, zP, zQ, reduceCtorEq, not_true_eq_false, not_false_eq_true, d1]) | (first | refine iE ?_ ?_ | refine iD ?_ ?_ | refine iQ ?_ ?_ | refine iV ?_ ?_) <;> intro _ | refine And.intro (by omega) ?_ | fail)
          refine drawn_q ?_
          repeat' (first | (simp (disch := omega) only [push_cast, ↓reduceIte, zA, zG, zB, zH, zI, zC, zJ, zK, zL, zD, zE, zF, zM, zN, zO, zP, zQ, reduceCtorEq, not_true_eq_false, not_false_eq_true, q2, q3, q4, fy, addr_add_eq, Nat.zero_add]) | (first | refine iE ?_ ?_ | refine iD ?_ ?_ | refine iQ ?_ ?_ | refine iV ?_ ?_) <;> intro _ | refine And.intro (by omega) ?_ | fail)
          refine QFn.of hb15 (v := .bool (elB m.dl m.p q { x with proj := (j : Int) - 1 })) (fun w' hl => eligible_c m.dv m.mv m.dl m.ml m.p q { x with proj := (j : Int) - 1 } w' (mdSc hm (l010.trans hl)) (hm.p.later (l010.trans hl)) (hq.later (l010.trans hl)) hyin k.qi hxf hxt) ?_
          repeat' (first | (simp (disch := omega) only [push_cast, ↓reduceIte, zA, zG, zB, zH, zI, zC, zJ, zK, zL, zD, zE, zF, zM, zN, zO, zP, zQ, reduceCtorEq, not_true_eq_false, not_false_eq_true, q2, q3, q4, fy, addr_add_eq, Nat.zero_add]) | (first | refine iE ?_ ?_ | refine iD ?_ ?_ | refine iQ ?_ ?_ | refine iV ?_ ?_) <;> intro _ | refine And.intro (by omega) ?_ | fail)
          refine QFn.of hb16 (v := .bool (elB m.dl m.p q { x with proj := (j : Int) - 1 })) (fun w' hl => deligible_c m.dv m.mv m.dl m.ml m.p q { x with proj := (j : Int) - 1 } w' (mdSc hm (l010.trans hl)) (hm.p.later (l010.trans hl)) (hq.later (l010.trans hl)) hyin k.qi hxf hxt) ?_
          repeat' (first | (simp (disch := omega) only [push_cast, ↓reduceIte, zA, zG, zB, zH, zI, zC, zJ, zK, zL, zD, zE, zF, zM, zN, zO, zP, zQ, reduceCtorEq, not_true_eq_false, not_false_eq_true, decide_true]) | (first | refine iE ?_ ?_ | refine iD ?_ ?_ | refine iQ ?_ ?_ | refine iV ?_ ?_) <;> intro _ | refine And.intro (by omega) ?_ | fail)
          intro w11 l11
          repeat' (first | (simp (disch := omega) only [push_cast, ↓reduceIte, zA, zG, zB, zH, zI, zC, zJ, zK, zL, zD, zE, zF, zM, zN, zO, zP, zQ, reduceCtorEq, not_true_eq_false, not_false_eq_true]) | (first | refine iE ?_ ?_ | refine iD ?_ ?_ | refine iQ ?_ ?_ | refine iV ?_ ?_) <;> intro _ | refine And.intro (by omega) ?_ | fail)
          exact ⟨rfl, j + 1, by simp (disch := omega) only [push_cast, ↓reduceIte, zA, zG, zB, zH, zI, zC, zJ, zK, zL, zD, zE, zF, zM, zN, zO, zP, zQ, reduceCtorEq, not_true_eq_false, not_false_eq_true, ej], step w11 (l10.trans l11), by dsimp only; omega⟩
        · have d2 := decide_eq_false hpa
          repeat' (first | (simp (disch := omega) only [push_cast, ↓reduceIte, zA, zG, zB, zH, zI, zC, zJ, zK, zL, zD, zE, zF, zM, zN, zO, zP, zQ, reduceCtorEq, not_true_eq_false, not_false_eq_true, d1, hd3]) | (first | refine iE ?_ ?_ | refine iD ?_ ?_ | refine iQ ?_ ?_ | refine iV ?_ ?_) <;> intro _ | refine And.intro (by omega) ?_ | fail)
          refine drawn_q ?_
          repeat' (first | (simp (disch := omega) only [push_cast, ↓reduceIte, zA, zG, zB, zH, zI, zC, zJ, zK, zL, zD, zE, zF, zM, zN, zO, zP, zQ, reduceCtorEq, not_true_eq_false, not_false_eq_true, d1, d2, hd3, q1, t0, y2, addr_add_eq, Nat.zero_add]) | (first | refine iE ?_ ?_ | refine iD ?_ ?_ | refine iQ ?_ ?_ | refine iV ?_ ?_) <;> intro _ | refine And.intro (by omega) ?_ | fail)
          intro w10 l10
          repeat' (first | (simp (disch := omega) only [push_cast, ↓reduceIte, zA, zG, zB, zH, zI, zC, zJ, zK, zL, zD, zE, zF, zM, zN, zO, zP, zQ, reduceCtorEq, not_true_eq_false, not_false_eq_true]) | (first | refine iE ?_ ?_ | refine iD ?_ ?_ | refine iQ ?_ ?_ | refine iV ?_ ?_) <;> intro _ | refine And.intro (by omega) ?_ | fail)
          exact ⟨rfl, j + 1, by simp (disch := omega) only [push_cast, ↓reduceIte, zA, zG, zB, zH, zI, zC, zJ, zK, zL, zD, zE, zF, zM, zN, zO, zP, zQ, reduceCtorEq, not_true_eq_false, not_false_eq_true, ej], step w10 l10, by dsimp only; omega⟩
      · have d1 := decide_eq_false hj0
        repeat' (first | (simp (disch := omega) only [push_cast, ↓reduceIte, zA, zG, zB, zH, zI, zC, zJ, zK, zL, zD, zE, zF, zM, zN, zO, zP, zQ, reduceCtorEq, not_true_eq_false, not_false_eq_true, d1, hd3]) | (first | refine iE ?_ ?_ | refine iD ?_ ?_ | refine iQ ?_ ?_ | refine iV ?_ ?_) <;> intro _ | refine And.intro (by omega) ?_ | fail)
        refine drawn_q ?_
        repeat' (first | (simp (disch := omega) only [push_cast, ↓reduceIte, zA, zG, zB, zH, zI, zC, zJ, zK, zL, zD, zE, zF, zM, zN, zO, zP, zQ, reduceCtorEq, not_true_eq_false, not_false_eq_true, d1, hd3, q1, y2, addr_add_eq, Nat.zero_add]) | (first | refine iE ?_ ?_ | refine iD ?_ ?_ | refine iQ ?_ ?_ | refine iV ?_ ?_) <;> intro _ | refine And.intro (by omega) ?_ | fail)
        intro w10 l10
        obtain ⟨fy, F10, l010⟩ := both w10 l10
        have q2 := F10.sc
        have q3 := F10.pc
        have q4 := F10.qc
        repeat' (first | (simp (disch := omega) only [push_cast, ↓reduceIte, zA, zG, zB, zH, zI, zC, zJ, zK, zL, zD, zE, zF, zM, zN, zO, zP, zQ, reduceCtorEq, not_true_eq_false, not_false_eq_true, d1]) | (first | refine iE ?_ ?_ | refine iD ?_ ?_ | refine iQ ?_ ?_ | refine iV ?_ ?_) <;> intro _ | refine And.intro (by omega) ?_ | fail)
        refine drawn_q ?_
        repeat' (first | (simp (disch := omega) only [push_cast, ↓reduceIte, zA, zG, zB, zH, zI, zC, zJ, zK, zL, zD, zE, zF, zM, zN, zO, zP, zQ, reduceCtorEq, not_true_eq_false, not_false_eq_true, q2, q3, q4, fy, addr_add_eq, Nat.zero_add]) | (first | refine iE ?_ ?_ | refine iD ?_ ?_ | refine iQ ?_ ?_ | refine iV ?_ ?_) <;> intro _ | refine And.intro (by omega) ?_ | fail)
        refine QFn.of hb15 (v := .bool (elB m.dl m.p q { x with proj := (j : Int) - 1 })) (fun w' hl => eligible_c m.dv m.mv m.dl m.ml m.p q { x with proj := (j : Int) - 1 } w' (mdSc hm (l010.trans hl)) (hm.p.later (l010.trans hl)) (hq.later (l010.trans hl)) hyin k.qi hxf hxt) ?_
        repeat' (first | (simp (disch := omega) only [push_cast, ↓reduceIte, zA, zG, zB, zH, zI, zC, zJ, zK, zL, zD, zE, zF, zM, zN, zO, zP, zQ, reduceCtorEq, not_true_eq_false, not_false_eq_true, q2, q3, q4, fy, addr_add_eq, Nat.zero_add]) | (first | refine iE ?_ ?_ | refine iD ?_ ?_ | refine iQ ?_ ?_ | refine iV ?_ ?_) <;> intro _ | refine And.intro (by omega) ?_ | fail)
        refine QFn.of hb16 (v := .bool (elB m.dl m.p q { x with proj := (j : Int) - 1 })) (fun w' hl => deligible_c m.dv m.mv m.dl m.ml m.p q { x with proj := (j : Int) - 1 } w' (mdSc hm (l010.trans hl)) (hm.p.later (l010.trans hl)) (hq.later (l010.trans hl)) hyin k.qi hxf hxt) ?_
        repeat' (first | (simp (disch := omega) only [push_cast, ↓reduceIte, zA, zG, zB, zH, zI, zC, zJ, zK, zL, zD, zE, zF, zM, zN, zO, zP, zQ, reduceCtorEq, not_true_eq_false, not_false_eq_true, decide_true]) | (first | refine iE ?_ ?_ | refine iD ?_ ?_ | refine iQ ?_ ?_ | refine iV ?_ ?_) <;> intro _ | refine And.intro (by omega) ?_ | fail)
        intro w11 l11
        repeat' (first | (simp (disch := omega) only [push_cast, ↓reduceIte, zA, zG, zB, zH, zI, zC, zJ, zK, zL, zD, zE, zF, zM, zN, zO, zP, zQ, reduceCtorEq, not_true_eq_false, not_false_eq_true]) | (first | refine iE ?_ ?_ | refine iD ?_ ?_ | refine iQ ?_ ?_ | refine iV ?_ ?_) <;> intro _ | refine And.intro (by omega) ?_ | fail)
        exact ⟨rfl, j + 1, by simp (disch := omega) only [push_cast, ↓reduceIte, zA, zG, zB, zH, zI, zC, zJ, zK, zL, zD, zE, zF, zM, zN, zO, zP, zQ, reduceCtorEq, not_true_eq_false, not_false_eq_true, ej], step w11 (l10.trans l11), by dsimp only; omega⟩
    · have hd3 : decide ((j : Int) - 1 < (m.p.pl.length : Int)) = false := decide_eq_false (by omega)
      repeat' (first | (simp (disch := omega) only [push_cast, ↓reduceIte, zA, zG, zB, zH, zI, zC, zJ, zK, zL, zD, zE, zF, zM, zN, zO, zP, zQ, reduceCtorEq, not_true_eq_false, not_false_eq_true, hd3, g1, addr_add_eq, Nat.zero_add]) | (first | refine iE ?_ ?_ | refine iD ?_ ?_ | refine iQ ?_ ?_ | refine iV ?_ ?_) <;> intro _ | refine And.intro (by omega) ?_ | fail)
      exact ⟨rfl, i + 1, by simp (disch := omega) only [push_cast, ↓reduceIte, zA, zG, zB, zH, zI, zC, zJ, zK, zL, zD, zE, zF, zM, zN, zO, zP, zQ, reduceCtorEq, not_true_eq_false, not_false_eq_true], ⟨by omega, l7⟩, by dsimp only; omega⟩
  · have hd2 : decide ((i : Int) < (L.length : Int)) = false := decide_eq_false (by omega)
    have l16 := l15.trans l6
    have l06 := l01.trans l16
    have F6 := FF w6 l16
    have q1 := F6.sc
    have q2 := F6.pc
    have q3 := F6.qc
    have q4 := F6.ev
    have q5 := F6.fv
    have ktl := k.tl
    have kfl := k.fl
    repeat' (first | (simp (disch := omega) only [push_cast, ↓reduceIte, zA, zG, zB, zH, zI, zC, zJ, zK, zL, zD, zE, zF, zM, zN, zO, zP, zQ, reduceCtorEq, not_true_eq_false, not_false_eq_true, hd2, q1, q2, q3, q4, q5, addr_add_eq, Nat.zero_add]) | (first | refine iE ?_ ?_ | refine iD ?_ ?_ | refine iQ ?_ ?_ | refine iV ?_ ?_) <;> intro _ | refine And.intro (by omega) ?_ | fail)
    refine (choose_c m.dv m.mv m.dl m.ml m.p m.ev m.el q m.fv m.fl w6 (mdSc hm l06) (hm.p.later l06) (Sl.later hm.ev l06) hm.el (hq.later l06) (hm.fv.later l06) hm.fl k.el k.fall (by omega) k.qi (by omega) k.fi.j).mono ?_
    rintro _ w7 ⟨⟨lv1, rfl, hlv1⟩, l7⟩
    have l17 := l16.trans l7
    have l07 := l01.trans l17
    have F7 := FF w7 l17
    have q1 := F7.sc
    have q2 := F7.pc
    have q3 := F7.qc
    have q4 := F7.ev
    have q5 := F7.fv
    have kpl := k.pl
    repeat' (first | (simp (disch := omega) only [push_cast, ↓reduceIte, zA, zG, zB, zH, zI, zC, zJ, zK, zL, zD, zE, zF, zM, zN, zO, zP, zQ, reduceCtorEq, not_true_eq_false, not_false_eq_true, hd2, q1, q2, q3, q4, q5, addr_add_eq, Nat.zero_add]) | (first | refine iE ?_ ?_ | refine iD ?_ ?_ | refine iQ ?_ ?_ | refine iV ?_ ?_) <;> intro _ | refine And.intro (by omega) ?_ | fail)
    refine (dchoose_c m.dv m.mv m.dl m.ml m.p m.ev m.el q m.fv m.fl w7 (mdSc hm l07) (hm.p.later l07) (Sl.later hm.ev l07) hm.el (hq.later l07) (hm.fv.later l07) k.el (by omega) (by omega) k.qi).mono ?_
    rintro _ w8 ⟨⟨lv2, rfl, hlv2⟩, l8⟩
    have hLL : ∀ b, chooseR (elB m.dl m.p q) b (strL q.fr q.to m.el m.p.tl.length) = chooseR (elB m.dl m.p q) b L := fun b => by rw [hLe]
    rw [hLL] at hlv1 hlv2
    rw [hLL, hLL]
    rw [hbest] at hlv1 ⊢
    generalize chooseR (elB m.dl m.p q) (fun x => bestD m.dl m.p q m.fl x m.p.pl.length) L = R at *
    have l08 := l07.trans l8
    repeat' (first | (simp (disch := omega) only [push_cast, ↓reduceIte, zA, zG, zB, zH, zI, zC, zJ, zK, zL, zD, zE, zF, zM, zN, zO, zP, zQ, reduceCtorEq, not_true_eq_false, not_false_eq_true]) | (first | refine iE ?_ ?_ | refine iD ?_ ?_ | refine iQ ?_ ?_ | refine iV ?_ ?_) <;> intro _ | refine And.intro (by omega) ?_ | fail)
    refine (alive26_c w8).mono ?_
    rintro _ w9 ⟨rfl, l9⟩
    repeat' (first | (simp (disch := omega) only [push_cast, ↓reduceIte, zA, zG, zB, zH, zI, zC, zJ, zK, zL, zD, zE, zF, zM, zN, zO, zP, zQ, reduceCtorEq, not_true_eq_false, not_false_eq_true]) | (first | refine iE ?_ ?_ | refine iD ?_ ?_ | refine iQ ?_ ?_ | refine iV ?_ ?_) <;> intro _ | refine And.intro (by omega) ?_ | fail)
    refine (plans_c lv1 lv2 R.1 R.1 w9 (hlv1.later (l8.trans l9)) (hlv2.later l9)).mono ?_
    rintro _ w10 ⟨rfl, l10⟩
    repeat' (first | (simp (disch := omega) only [push_cast, ↓reduceIte, zA, zG, zB, zH, zI, zC, zJ, zK, zL, zD, zE, zF, zM, zN, zO, zP, zQ, reduceCtorEq, not_true_eq_false, not_false_eq_true, decide_true]) | (first | refine iE ?_ ?_ | refine iD ?_ ?_ | refine iQ ?_ ?_ | refine iV ?_ ?_) <;> intro _ | refine And.intro (by omega) ?_ | refine drawn_q ?_ | fail)
    first | exact ⟨rfl, (l08.trans (l9.trans l10))⟩ | exact (l08.trans (l9.trans l10))
theorem own : ownKnob Try.prog.godebug = none := by kernel_rfl
theorem lifted (os : Os) (started : os.Started) (H : Type) (enc : TypeId × Value → H) (F : Stop.Interp) :
    ReturnsInHanded {} Try.checked os 3 .any ((Rows.OpenSpec.upto Rows.selectorTellsSpec).pre6 enc Try.prog Try.f3 Rows.selectorTellsUptoRow.domain false) (((Rows.OpenSpec.upto Rows.selectorTellsSpec).at F).post enc Try.prog Try.f3 false true false false) := by
  refine lifted_laterU own started (by kernel_rfl) Try.func3 hb3
    (OpenSpec.witness (enc := enc) (C := Try.checked) (s := Rows.OpenSpec.upto Rows.selectorTellsSpec) (k := Rows.uptoSmall) rfl false ⟨#[], #[.agg #[.slice none 0 0, .slice none 0 0, .slice none 0 0, .slice none 0 0, .int .i64 0, .int .i64 0, .slice none 0 0, .int .i64 0, .slice none 0 0, .slice none 0 0, .string ⟨#[]⟩, .int .i64 0], .agg #[.slice none 0 0, .int .i64 0, .int .i64 0, .int .i64 0, .slice none 0 0, .int .i64 0, .string ⟨#[]⟩, .string ⟨#[]⟩, .slice none 0 0, .slice none 0 0, .int .i64 0, .int .i64 0]], []⟩ 20 (by kernel_rfl) (by kernel_rfl) (by kernel_rfl)
      (x := ([.agg [.agg [.nil, .nil], .agg [.nil, .nil, .lit (.int .i64 0)], .lit (.int .i64 0), .nil, .agg [.lit (.int .i64 0), .nil], .nil, .lit (.string []), .lit (.int .i64 0)], .agg [.nil, .lit (.int .i64 0), .lit (.int .i64 0), .lit (.int .i64 0), .nil, .agg [.lit (.int .i64 0), .lit (.string []), .lit (.string []), .nil], .nil, .lit (.int .i64 0), .lit (.int .i64 0)]], [], [])) (by kernel_rfl) rfl (by kernel_rfl))
    (by kernel_rfl) (list_all (by kernel_rfl)) (by kernel_rfl) Try.underlying4 rfl ?_ ?_
  · intro ds h
    have h : ds.length = 2 := h
    match ds, h with
    | [_, _], _ => rfl
  · intro W base args ds p hval0 hz0 hbk hA0
    have hval : ∀ (j : Nat) t v, Try.f3.params[j]? = some t → args[j]? = some v → Value.okWide Try.prog W .any base t v := hval0
    have hz : ∀ (j : Nat) t d, Try.f3.params.toList[j]? = some t → ds[j]? = some d → Sz Try.prog t d := hz0
    have hA : DataW.TrodAll enc Try.prog W 0 (fun _ => true) true Try.f3.params.toList args.toList ds p := hA0
    rw [Try.params3] at hA hval hz
    obtain ⟨v0, vs0, d0, ds0, p0, q0, hargs, rfl, rfl, h0, r0⟩ := trodAll_cons hA
    obtain ⟨v1, vs1, d1, ds1, p1, q1, rfl, rfl, rfl, h1, r1⟩ := trodAll_cons r0
    obtain ⟨rfl, rfl, rfl⟩ := trodAll_nil r1
    obtain rfl : args = #[v0, v1] := by cases args; simp_all
    simp only [Rows.uptoBulkAll] at hbk
    obtain ⟨cs0, e0, w0⟩ := openZ_agg ⟨_, Try.underlying34⟩ (fun _ => z_manifest) (hval 0 34 v0 rfl rfl) h0 (hz 0 _ _ rfl rfl)
    obtain ⟨cs1, e1, w1⟩ := openZ_agg ⟨_, Try.underlying42⟩ (fun _ => z_query) (hval 1 42 v1 rfl rfl) h1 (hz 1 _ _ rfl rfl)
    obtain ⟨m0, rfl, ok0⟩ := w0
    obtain ⟨b0, c0⟩ := bulk_manifest h0 e0 ok0
    subst e0
    obtain ⟨m1, rfl, ok1⟩ := w1
    subst e1
    exact law_c m0 m1 W ok0 ok1 (by omega) (by omega)
theorem over : Rows.selectorTellsUptoRow.holds Try.pinned (Rows.OpenSpec.upto Rows.selectorTellsSpec) :=
  OpenClaim.holds_of_cond 3 Try.f3 rfl rfl rfl rfl rfl rfl rfl ⟨rfl, rfl, rfl, rfl, rfl⟩ rfl rfl rfl rfl rfl (by kernel_rfl) Try.func3 (by kernel_rfl)
    (of_decide_eq_true (by kernel_rfl)) (by unfold Func.isWrapper; first | (rw [if_pos (by decide +kernel)]; kernel_rfl) | (rw [if_neg (by decide +kernel)]; exact ⟨rfl, rfl⟩))
    (fun os started H enc _ F => lifted os started H enc F)
/-- The statement, in its second form. -/
theorem proved : Rows.SelectorTellsUptoSaid :=
  over
end Go.Proofs.Ytnofalhkapmcnaa.selectorTells
