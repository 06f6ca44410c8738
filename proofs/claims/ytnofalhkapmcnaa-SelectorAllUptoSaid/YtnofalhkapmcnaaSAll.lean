/- 'SelectorAll', the second form: the stretches of a right manifest and a typed query of small bulk follow one another, from one end to the other; the plans have these stretches, and eligible cuboids. -/
import Derived.Test.YtnofalhkapmcnaaPartM
set_option linter.all false
open Nat renaming reduceEqDiff → zA, reducePow → zB, reduceMul → zC, reduceAdd → zD, reduceSub → zE, reduceLeDiff → zF
open Int renaming reduceToNat → zG, reducePow → zH, reduceNeg → zI, reduceMul → zJ, reduceAdd → zK, reduceSub → zL, reduceLT → zM, reduceLE → zN, reduceEq → zO, reduceMod → zP, reduceDiv → zQ
set_option linter.unusedSimpArgs false
namespace Go.Proofs.Ytnofalhkapmcnaa.selectorAll
open Go.Vc Go.Key Go.Bkt Go.RowKit Go.ChangeShapes
set_option maxRecDepth 100000
set_option maxHeartbeats 4000000 in
theorem law_c (m : MD) (q : QD) (w : World) (hm : m.Ok w) (hq : q.Ok w) (hd : m.dl.length ≤ 2000000) (hml : m.ml.length ≤ 2000000) : FnC Try.prog 4 #[.agg (mdC m).toArray, .agg (qdC q).toArray] w fun v w' => v = .bool true ∧ Later w w' := by
  refine enter4 _ _ ?_
  unfold B4
  have eca : (Value.agg (mdC m).toArray).cells = (mdC m).toArray := rfl
  have ecb : (Value.agg (qdC q).toArray).cells = (qdC q).toArray := rfl
  obtain ⟨k0, hk0⟩ : ∃ k0, k0 = w.heap.size := ⟨_, rfl⟩
  have la := later_alloc w (.cells (mdC m).toArray 34)
  have Ba := Blk.new w (mdC m).toArray 34
  have sa : (w.alloc (.cells (mdC m).toArray 34)).heap.size = k0 + 1 := by rw [World.size_alloc, hk0]
  rw [← hk0] at Ba
  generalize hwa : w.alloc (.cells (mdC m).toArray 34) = wa at *
  have lb := later_alloc wa (.cells (qdC q).toArray 42)
  have Bb := Blk.new wa (qdC q).toArray 42
  rw [sa] at Bb
  generalize hwb : wa.alloc (.cells (qdC q).toArray 42) = w1 at *
  repeat' (first | (simp (disch := omega) only [push_cast, ↓reduceIte, zA, zG, zB, zH, zI, zC, zJ, zK, zL, zD, zE, zF, zM, zN, zO, zP, zQ, reduceCtorEq, not_true_eq_false, not_false_eq_true, eca, ecb, hwa, sa, hwb, ← hk0]) | (first | refine iE ?_ ?_ | refine iD ?_ ?_ | refine iQ ?_ ?_ | refine iV ?_ ?_) <;> intro _ | refine And.intro (by omega) ?_ | fail)
  have l01 := la.trans lb
  have FF := boxF (mdLater Ba lb) Bb
  clear hwa hwb sa la lb Ba Bb hk0
  have F1 := FF w1 (Later.refl _)
  have g1 := F1.mc
  have g2 := F1.qc
  repeat' (first | (simp (disch := omega) only [push_cast, ↓reduceIte, zA, zG, zB, zH, zI, zC, zJ, zK, zL, zD, zE, zF, zM, zN, zO, zP, zQ, reduceCtorEq, not_true_eq_false, not_false_eq_true, g1, g2]) | (first | refine iE ?_ ?_ | refine iD ?_ ?_ | refine iQ ?_ ?_ | refine iV ?_ ?_) <;> intro _ | refine And.intro (by omega) ?_ | fail)
  refine (fits26_c m q w1 (hm.later l01) (hq.later l01) hd hml).mono ?_
  rintro _ w2 ⟨⟨b, rfl, hb⟩, l2⟩
  have l02 := l01.trans l2
  cases b with
  | false =>
    repeat' (first | (simp (disch := omega) only [push_cast, ↓reduceIte, zA, zG, zB, zH, zI, zC, zJ, zK, zL, zD, zE, zF, zM, zN, zO, zP, zQ, reduceCtorEq, not_true_eq_false, not_false_eq_true]) | (first | refine iE ?_ ?_ | refine iD ?_ ?_ | refine iQ ?_ ?_ | refine iV ?_ ?_) <;> intro _ | refine And.intro (by omega) ?_ | fail)
    refine (alive26_c w2).mono ?_
    rintro _ w3 ⟨rfl, l3⟩
    repeat' (first | (simp (disch := omega) only [push_cast, ↓reduceIte, zA, zG, zB, zH, zI, zC, zJ, zK, zL, zD, zE, zF, zM, zN, zO, zP, zQ, reduceCtorEq, not_true_eq_false, not_false_eq_true]) | (first | refine iE ?_ ?_ | refine iD ?_ ?_ | refine iQ ?_ ?_ | refine iV ?_ ?_) <;> intro _ | refine And.intro (by omega) ?_ | refine drawn_q ?_ | fail)
    first | exact ⟨rfl, (l02.trans l3)⟩ | exact (l02.trans l3)
  | true =>
  have k := (hb rfl).know
  clear hb g1 g2 F1
  have F2 := FF w2 l2
  have g1 := F2.pc
  have g2 := F2.qc
  have g3 := F2.ev
  have ktl := k.tl
  have kel := k.el
  have kfl := k.fl
  have kq := k.q0
  repeat' (first | (simp (disch := omega) only [push_cast, ↓reduceIte, zA, zG, zB, zH, zI, zC, zJ, zK, zL, zD, zE, zF, zM, zN, zO, zP, zQ, reduceCtorEq, not_true_eq_false, not_false_eq_true, g1, g2, g3, addr_add_eq, Nat.zero_add]) | (first | refine iE ?_ ?_ | refine iD ?_ ?_ | refine iQ ?_ ?_ | refine iV ?_ ?_) <;> intro _ | refine And.intro (by omega) ?_ | fail)
  refine (stretches_c m.p m.ev m.el q w2 (hm.p.later l02) (Sl.later hm.ev l02) (hq.later l02) k.el k.fall (by omega)).mono ?_
  rintro lv w3 ⟨hL, l3⟩
  have hL := OwnR.s hL
  have hLl := strL_len q.fr q.to m.el m.p.tl.length
  have hLm := LL26.mem k hm hq
  have hLd : strL q.fr q.to m.el m.p.tl.length = LL26 m q := rfl
  obtain ⟨n, hn⟩ : ∃ n, m.el.length = n + 1 := ⟨m.el.length - 1, by omega⟩
  have hch := strL_ch (fr := q.fr) (to := q.to) (el := m.el) kq.2.1 k.fall n (by omega)
  rw [← hn, kel, hLd] at hch
  rw [hLd] at hL hLl
  obtain ⟨lo, lc, rfl, hl1, hl2⟩ := RecS.slice hL
  obtain ⟨eo, ec, hev, he1, he2, he, he0⟩ := hm.ev.openM
  have l13 := l2.trans l3
  have l03 := l01.trans l13
  have F3 := FF w3 l13
  have g1 := F3.fr
  have g2 := F3.to
  have g3 := F3.ev
  rw [hev] at g3
  obtain ⟨ea, rfl, ef⟩ := int_at (Sl.later he l03) (i := n) (by omega)
  have t1 : ((m.el.length : Int) - 1).toNat = n := by omega
  generalize LL26 m q = L at *
  generalize hlow : max q.fr (m.el.getD n 0) = low at *
  repeat' (first | (simp (disch := omega) only [push_cast, ↓reduceIte, zA, zG, zB, zH, zI, zC, zJ, zK, zL, zD, zE, zF, zM, zN, zO, zP, zQ, reduceCtorEq, not_true_eq_false, not_false_eq_true, g3]) | (first | refine iE ?_ ?_ | refine iD ?_ ?_ | refine iQ ?_ ?_ | refine iV ?_ ?_) <;> intro _ | refine And.intro (by omega) ?_ | fail)
  refine drawn_q ?_
  repeat' (first | (simp (disch := omega) only [push_cast, ↓reduceIte, zA, zG, zB, zH, zI, zC, zJ, zK, zL, zD, zE, zF, zM, zN, zO, zP, zQ, reduceCtorEq, not_true_eq_false, not_false_eq_true, g1, g3, ef, t1, hlow, addr_add_eq, Nat.zero_add]) | (first | refine iE ?_ ?_ | refine iD ?_ ?_ | refine iQ ?_ ?_ | refine iV ?_ ?_) <;> intro _ | refine And.intro (by omega) ?_ | fail)
  intro w4 l4
  have l14 := l13.trans l4
  have l04 := l01.trans l14
  have hL4 := hL.later l4
  have F4 := FF w4 l14
  have g2 := F4.to
  repeat' (first | (simp (disch := omega) only [push_cast, ↓reduceIte, zA, zG, zB, zH, zI, zC, zJ, zK, zL, zD, zE, zF, zM, zN, zO, zP, zQ, reduceCtorEq, not_true_eq_false, not_false_eq_true, g2, addr_add_eq, Nat.zero_add]) | (first | refine iE ?_ ?_ | refine iD ?_ ?_ | refine iQ ?_ ?_ | refine iV ?_ ?_) <;> intro _ | refine And.intro (by omega) ?_ | fail)
  refine vc_loop W4_0 (fun i : Nat => [(8, .int .i64 (atN q.to L i)), (9, .int .i64 (i : Int))]) (fun i w' => i ≤ L.length ∧ Later w4 w') (fun i => L.length - i) 0 (by decide) ?_ ?_ ?_
  · simp (disch := omega) only [push_cast, ↓reduceIte, zA, zG, zB, zH, zI, zC, zJ, zK, zL, zD, zE, zF, zM, zN, zO, zP, zQ, reduceCtorEq, not_true_eq_false, not_false_eq_true]
    try rfl
  · exact ⟨Nat.zero_le _, Later.refl _⟩
  rintro i uu w5 ⟨hi, l5⟩
  by_cases hik : i < L.length
  · have hd2 : decide ((i : Int) < (L.length : Int)) = true := decide_eq_true (by omega)
    have h5 := hL4.later l5
    obtain ⟨a, rfl, _⟩ := RecS.at pnC_len h5 hik
    have p0 : w5.cell? (a.add (i * 5)) = some (.int .i64 L[i].fr) := by
      have := RecS.cell (j := 0) pnC_len h5 hik rfl
      rwa [addr_add_zero] at this
    have p1 : w5.cell? ((a.add (i * 5)).add 1) = some (.int .i64 L[i].to) := RecS.cell (j := 1) pnC_len h5 hik rfl
    have p2 : w5.cell? ((a.add (i * 5)).add 2) = some (.int .i64 L[i].tier) := RecS.cell (j := 2) pnC_len h5 hik rfl
    have p3 : w5.cell? ((a.add (i * 5)).add 3) = some (.int .i64 L[i].proj) := RecS.cell (j := 3) pnC_len h5 hik rfl
    have d1 : decide (L[i].to = atN q.to L i) = true := decide_eq_true (hch.to_ i hik)
    have d2 : decide (atN q.to L i ≤ L[i].fr) = false := decide_eq_false (by have := hch.lt i hik; have := hch.to_ i hik; omega)
    have d4 : decide (L[i].proj = -1) = true := decide_eq_true (hch.own i hik)
    have hnext : atN q.to L (i + 1) = L[i].fr := by
      show (L.getD i default).fr = L[i].fr
      rw [List.getD_eq_getElem?_getD, List.getElem?_eq_getElem hik]; rfl
    rcases Nat.eq_zero_or_pos i with hz | hz
    · have d3 : decide ((0 : Int) < (i : Int)) = false := decide_eq_false (by omega)
      repeat' (first | (simp (disch := omega) only [push_cast, ↓reduceIte, zA, zG, zB, zH, zI, zC, zJ, zK, zL, zD, zE, zF, zM, zN, zO, zP, zQ, reduceCtorEq, not_true_eq_false, not_false_eq_true, hd2]) | (first | refine iE ?_ ?_ | refine iD ?_ ?_ | refine iQ ?_ ?_ | refine iV ?_ ?_) <;> intro _ | refine And.intro (by omega) ?_ | fail)
      refine drawn_q ?_
      repeat' (first | (simp (disch := omega) only [push_cast, ↓reduceIte, zA, zG, zB, zH, zI, zC, zJ, zK, zL, zD, zE, zF, zM, zN, zO, zP, zQ, reduceCtorEq, not_true_eq_false, not_false_eq_true, hd2, p0, p1, p3, d1, d2, d3, d4]) | (first | refine iE ?_ ?_ | refine iD ?_ ?_ | refine iQ ?_ ?_ | refine iV ?_ ?_) <;> intro _ | refine And.intro (by omega) ?_ | fail)
      intro w6 l6
      have q0 := l6.cell p0
      repeat' (first | (simp (disch := omega) only [push_cast, ↓reduceIte, zA, zG, zB, zH, zI, zC, zJ, zK, zL, zD, zE, zF, zM, zN, zO, zP, zQ, reduceCtorEq, not_true_eq_false, not_false_eq_true, hd2, q0]) | (first | refine iE ?_ ?_ | refine iD ?_ ?_ | refine iQ ?_ ?_ | refine iV ?_ ?_) <;> intro _ | refine And.intro (by omega) ?_ | fail)
      exact ⟨rfl, i + 1, by simp (disch := omega) only [push_cast, ↓reduceIte, zA, zG, zB, zH, zI, zC, zJ, zK, zL, zD, zE, zF, zM, zN, zO, zP, zQ, reduceCtorEq, not_true_eq_false, not_false_eq_true, hnext], ⟨by omega, l5.trans l6⟩, by dsimp only; omega⟩
    · have d3 : decide ((0 : Int) < (i : Int)) = true := decide_eq_true (by omega)
      have hj : i - 1 < L.length := by omega
      have p2' : w5.cell? ((a.add ((i - 1) * 5)).add 2) = some (.int .i64 L[i - 1].tier) := RecS.cell (j := 2) pnC_len h5 hj rfl
      have d5 : decide (L[i].tier ≤ L[i - 1].tier) = false := decide_eq_false (by have := hch.up i (i - 1) hik hj (by omega); omega)
      have t2 : ((i : Int) - 1).toNat = i - 1 := by omega
      repeat' (first | (simp (disch := omega) only [push_cast, ↓reduceIte, zA, zG, zB, zH, zI, zC, zJ, zK, zL, zD, zE, zF, zM, zN, zO, zP, zQ, reduceCtorEq, not_true_eq_false, not_false_eq_true, hd2]) | (first | refine iE ?_ ?_ | refine iD ?_ ?_ | refine iQ ?_ ?_ | refine iV ?_ ?_) <;> intro _ | refine And.intro (by omega) ?_ | fail)
      refine drawn_q ?_
      repeat' (first | (simp (disch := omega) only [push_cast, ↓reduceIte, zA, zG, zB, zH, zI, zC, zJ, zK, zL, zD, zE, zF, zM, zN, zO, zP, zQ, reduceCtorEq, not_true_eq_false, not_false_eq_true, hd2, p0, p1, p2, p2', p3, d1, d2, d3, d4, d5, t2]) | (first | refine iE ?_ ?_ | refine iD ?_ ?_ | refine iQ ?_ ?_ | refine iV ?_ ?_) <;> intro _ | refine And.intro (by omega) ?_ | fail)
      intro w6 l6
      have q0 := l6.cell p0
      repeat' (first | (simp (disch := omega) only [push_cast, ↓reduceIte, zA, zG, zB, zH, zI, zC, zJ, zK, zL, zD, zE, zF, zM, zN, zO, zP, zQ, reduceCtorEq, not_true_eq_false, not_false_eq_true, hd2, q0]) | (first | refine iE ?_ ?_ | refine iD ?_ ?_ | refine iQ ?_ ?_ | refine iV ?_ ?_) <;> intro _ | refine And.intro (by omega) ?_ | fail)
      exact ⟨rfl, i + 1, by simp (disch := omega) only [push_cast, ↓reduceIte, zA, zG, zB, zH, zI, zC, zJ, zK, zL, zD, zE, zF, zM, zN, zO, zP, zQ, reduceCtorEq, not_true_eq_false, not_false_eq_true, hnext], ⟨by omega, l5.trans l6⟩, by dsimp only; omega⟩
  have hd2 : decide ((i : Int) < (L.length : Int)) = false := decide_eq_false (by omega)
  obtain rfl : i = L.length := by omega
  have l15 := l14.trans l5
  have l05 := l01.trans l15
  have F5 := FF w5 l15
  have g1 := F5.sc
  have g2 := F5.pc
  have g3 := F5.qc
  have g4 := F5.ev
  have g5 := F5.fv
  have g6 := F5.to
  have hemp := hch.emp
  have hlast := hch.last
  have hc1 : decide ((L.length : Int) = 0) = decide (q.to ≤ low) := decide_eq_decide.2 (by omega)
  have hor := chooseR_or (elB m.dl m.p q) (bestS m.dl m.p q m.fl) L
  have hrun := choose_c m.dv m.mv m.dl m.ml m.p m.ev m.el q m.fv m.fl w5 (mdSc hm l05) (hm.p.later l05) (Sl.later hm.ev l05) hm.el (hq.later l05) (hm.fv.later l05) hm.fl k.el k.fall (by omega) k.qi (by omega) k.fi.j
  rw [hLd] at hrun
  by_cases hz : L.length = 0
  · have e1 : decide (q.to ≤ low) = true := decide_eq_true (by omega)
    rw [e1] at hc1
    have e2 : decide ((0 : Int) < (L.length : Int)) = false := decide_eq_false (by omega)
    repeat' (first | (simp (disch := omega) only [push_cast, ↓reduceIte, zA, zG, zB, zH, zI, zC, zJ, zK, zL, zD, zE, zF, zM, zN, zO, zP, zQ, reduceCtorEq, not_true_eq_false, not_false_eq_true, hd2, hc1, e1, e2, g1, g2, g3, g4, g5, g6, decide_true, addr_add_eq, Nat.zero_add]) | (first | refine iE ?_ ?_ | refine iD ?_ ?_ | refine iQ ?_ ?_ | refine iV ?_ ?_) <;> intro _ | refine And.intro (by omega) ?_ | fail)
    refine hrun.mono ?_
    rintro _ w6 ⟨⟨pv, rfl, hpv⟩, l6⟩
    have l46 := l5.trans l6
    have l16 := l15.trans l6
    have l06 := l05.trans l6
    rcases hor with ⟨hall, hR⟩ | ⟨i0, hi0, hE0, hb0, hR⟩
    · rw [hR] at hpv ⊢
      dsimp only at hpv
      obtain ⟨po, pc, rfl, hp1, hp2⟩ := RecS.slice hpv
      repeat' (first | (simp (disch := omega) only [push_cast, ↓reduceIte, zA, zG, zB, zH, zI, zC, zJ, zK, zL, zD, zE, zF, zM, zN, zO, zP, zQ, reduceCtorEq, not_true_eq_false, not_false_eq_true, List.length_map]) | (first | refine iE ?_ ?_ | refine iD ?_ ?_ | refine iQ ?_ ?_ | refine iV ?_ ?_) <;> intro _ | refine And.intro (by omega) ?_ | fail)
      refine vc_loop W4_1 (fun i : Nat => [(13, .int .i64 (i : Int))]) (fun i w' => i ≤ L.length ∧ Later w6 w') (fun i => L.length - i) 0 (by decide) ?_ ?_ ?_
      · simp (disch := omega) only [push_cast, ↓reduceIte, zA, zG, zB, zH, zI, zC, zJ, zK, zL, zD, zE, zF, zM, zN, zO, zP, zQ, reduceCtorEq, not_true_eq_false, not_false_eq_true]
        try rfl
      · exact ⟨Nat.zero_le _, Later.refl _⟩
      rintro i uu2 w7 ⟨hi, l7⟩
      by_cases hik : i < L.length
      · exfalso; omega
      · have hd3 : decide ((i : Int) < (L.length : Int)) = false := decide_eq_false (by omega)
        repeat' (first | (simp (disch := omega) only [push_cast, ↓reduceIte, zA, zG, zB, zH, zI, zC, zJ, zK, zL, zD, zE, zF, zM, zN, zO, zP, zQ, reduceCtorEq, not_true_eq_false, not_false_eq_true, hd3, List.length_map]) | (first | refine iE ?_ ?_ | refine iD ?_ ?_ | refine iQ ?_ ?_ | refine iV ?_ ?_) <;> intro _ | refine And.intro (by omega) ?_ | fail)
        refine (alive26_c w7).mono ?_
        rintro _ w8 ⟨rfl, l8⟩
        repeat' (first | (simp (disch := omega) only [push_cast, ↓reduceIte, zA, zG, zB, zH, zI, zC, zJ, zK, zL, zD, zE, zF, zM, zN, zO, zP, zQ, reduceCtorEq, not_true_eq_false, not_false_eq_true, decide_true, List.length_map]) | (first | refine iE ?_ ?_ | refine iD ?_ ?_ | refine iQ ?_ ?_ | refine iV ?_ ?_) <;> intro _ | refine And.intro (by omega) ?_ | refine drawn_q ?_ | fail)
        first | exact ⟨rfl, (l06.trans (l7.trans l8))⟩ | exact (l06.trans (l7.trans l8))
    · rw [hR] at hpv ⊢
      dsimp only at hpv
      obtain ⟨po, pc, rfl, hp1, hp2⟩ := RecS.slice hpv
      repeat' (first | (simp (disch := omega) only [push_cast, ↓reduceIte, zA, zG, zB, zH, zI, zC, zJ, zK, zL, zD, zE, zF, zM, zN, zO, zP, zQ, reduceCtorEq, not_true_eq_false, not_false_eq_true, List.length_nil]) | (first | refine iE ?_ ?_ | refine iD ?_ ?_ | refine iQ ?_ ?_ | refine iV ?_ ?_) <;> intro _ | refine And.intro (by omega) ?_ | fail)
      refine (alive26_c w6).mono ?_
      rintro _ w7 ⟨rfl, l7⟩
      repeat' (first | (simp (disch := omega) only [push_cast, ↓reduceIte, zA, zG, zB, zH, zI, zC, zJ, zK, zL, zD, zE, zF, zM, zN, zO, zP, zQ, reduceCtorEq, not_true_eq_false, not_false_eq_true, decide_true, List.length_nil]) | (first | refine iE ?_ ?_ | refine iD ?_ ?_ | refine iQ ?_ ?_ | refine iV ?_ ?_) <;> intro _ | refine And.intro (by omega) ?_ | refine drawn_q ?_ | fail)
      first | exact ⟨rfl, (l06.trans l7)⟩ | exact (l06.trans l7)
  · have e1 : decide (q.to ≤ low) = false := decide_eq_false (by omega)
    rw [e1] at hc1
    have e2 : decide ((0 : Int) < (L.length : Int)) = true := decide_eq_true (by omega)
    have e3 : atN q.to L L.length = low := hlast (by omega)
    have e4 : decide (atN q.to L L.length = low) = true := decide_eq_true e3
    repeat' (first | (simp (disch := omega) only [push_cast, ↓reduceIte, zA, zG, zB, zH, zI, zC, zJ, zK, zL, zD, zE, zF, zM, zN, zO, zP, zQ, reduceCtorEq, not_true_eq_false, not_false_eq_true, hd2, hc1, e1, e2, e4, g1, g2, g3, g4, g5, g6, decide_true, addr_add_eq, Nat.zero_add]) | (first | refine iE ?_ ?_ | refine iD ?_ ?_ | refine iQ ?_ ?_ | refine iV ?_ ?_) <;> intro _ | refine And.intro (by omega) ?_ | fail)
    refine hrun.mono ?_
    rintro _ w6 ⟨⟨pv, rfl, hpv⟩, l6⟩
    have l46 := l5.trans l6
    have l16 := l15.trans l6
    have l06 := l05.trans l6
    rcases hor with ⟨hall, hR⟩ | ⟨i0, hi0, hE0, hb0, hR⟩
    · rw [hR] at hpv ⊢
      dsimp only at hpv
      obtain ⟨po, pc, rfl, hp1, hp2⟩ := RecS.slice hpv
      repeat' (first | (simp (disch := omega) only [push_cast, ↓reduceIte, zA, zG, zB, zH, zI, zC, zJ, zK, zL, zD, zE, zF, zM, zN, zO, zP, zQ, reduceCtorEq, not_true_eq_false, not_false_eq_true, List.length_map]) | (first | refine iE ?_ ?_ | refine iD ?_ ?_ | refine iQ ?_ ?_ | refine iV ?_ ?_) <;> intro _ | refine And.intro (by omega) ?_ | fail)
      refine vc_loop W4_1 (fun i : Nat => [(13, .int .i64 (i : Int))]) (fun i w' => i ≤ L.length ∧ Later w6 w') (fun i => L.length - i) 0 (by decide) ?_ ?_ ?_
      · simp (disch := omega) only [push_cast, ↓reduceIte, zA, zG, zB, zH, zI, zC, zJ, zK, zL, zD, zE, zF, zM, zN, zO, zP, zQ, reduceCtorEq, not_true_eq_false, not_false_eq_true]
        try rfl
      · exact ⟨Nat.zero_le _, Later.refl _⟩
      rintro i uu2 w7 ⟨hi, l7⟩
      by_cases hik : i < L.length
      · have hd3 : decide ((i : Int) < (L.length : Int)) = true := decide_eq_true (by omega)
        have h7 := hL4.later (l46.trans l7)
        have hq7 := hpv.later l7
        have hik2 : i < (L.map (bestS m.dl m.p q m.fl)).length := by rw [List.length_map]; exact hik
        obtain ⟨a, rfl, _⟩ := RecS.at pnC_len h7 hik
        obtain ⟨b, rfl, fb⟩ := RecS.at pnC_len hq7 hik2
        have x0 : w7.cell? (a.add (i * 5)) = some (.int .i64 L[i].fr) := by
          have := RecS.cell (j := 0) pnC_len h7 hik rfl
          rwa [addr_add_zero] at this
        have x1 : w7.cell? ((a.add (i * 5)).add 1) = some (.int .i64 L[i].to) := RecS.cell (j := 1) pnC_len h7 hik rfl
        have x2 : w7.cell? ((a.add (i * 5)).add 2) = some (.int .i64 L[i].tier) := RecS.cell (j := 2) pnC_len h7 hik rfl
        have hxe := hall _ (List.getElem_mem hik)
        obtain ⟨hxin, hxf, hxt, _⟩ := hLm _ (List.getElem_mem hik)
        obtain ⟨hs1, hs2, hs3⟩ := bestS_shape (fl := m.fl) hxe
        obtain ⟨he1', he2'⟩ := bestS_in (fl := m.fl) hxe
        obtain ⟨hyin, hyf, hyt⟩ := cand_in hxin k.fi.j he2'
        have y0 : w7.cell? (b.add (i * 5)) = some (.int .i64 (bestS m.dl m.p q m.fl L[i]).fr) := by
          have := RecS.cell (j := 0) pnC_len hq7 hik2 rfl
          rw [addr_add_zero] at this
          rw [this, List.getElem_map]
        have y1 : w7.cell? ((b.add (i * 5)).add 1) = some (.int .i64 (bestS m.dl m.p q m.fl L[i]).to) := by
          have := RecS.cell (j := 1) pnC_len hq7 hik2 rfl
          rw [this, List.getElem_map]
        have y2 : w7.cell? ((b.add (i * 5)).add 2) = some (.int .i64 (bestS m.dl m.p q m.fl L[i]).tier) := by
          have := RecS.cell (j := 2) pnC_len hq7 hik2 rfl
          rw [this, List.getElem_map]
        rw [List.getElem_map] at fb
        rw [hs1] at y0
        rw [hs2] at y1
        rw [hs3] at y2
        generalize bestS m.dl m.p q m.fl L[i] = Y at *
        generalize L[i] = x at *
        have F7 := FF w7 (l16.trans l7)
        have q1 := F7.sc
        have q2 := F7.pc
        have q3 := F7.qc
        have l07 := l06.trans l7
        repeat' (first | (simp (disch := omega) only [push_cast, ↓reduceIte, zA, zG, zB, zH, zI, zC, zJ, zK, zL, zD, zE, zF, zM, zN, zO, zP, zQ, reduceCtorEq, not_true_eq_false, not_false_eq_true, hd3, List.length_map]) | (first | refine iE ?_ ?_ | refine iD ?_ ?_ | refine iQ ?_ ?_ | refine iV ?_ ?_) <;> intro _ | refine And.intro (by omega) ?_ | fail)
        refine drawn_q ?_
        repeat' (first | (simp (disch := omega) only [push_cast, ↓reduceIte, zA, zG, zB, zH, zI, zC, zJ, zK, zL, zD, zE, zF, zM, zN, zO, zP, zQ, reduceCtorEq, not_true_eq_false, not_false_eq_true, hd3, x0, x1, x2, y0, y1, y2, fb, q1, q2, q3, decide_true, List.length_map, addr_add_eq, Nat.zero_add]) | (first | refine iE ?_ ?_ | refine iD ?_ ?_ | refine iQ ?_ ?_ | refine iV ?_ ?_) <;> intro _ | refine And.intro (by omega) ?_ | fail)
        refine QFn.of hb15 (v := .bool true) (fun w' hl => (eligible_c m.dv m.mv m.dl m.ml m.p q Y w' (mdSc hm (l07.trans hl)) (hm.p.later (l07.trans hl)) (hq.later (l07.trans hl)) hyin k.qi (by rw [hyf]; exact hxf) (by rw [hyt]; exact hxt)).mono fun v w'' h => ⟨by rw [h.1, he1'], h.2⟩) ?_
        repeat' (first | (simp (disch := omega) only [push_cast, ↓reduceIte, zA, zG, zB, zH, zI, zC, zJ, zK, zL, zD, zE, zF, zM, zN, zO, zP, zQ, reduceCtorEq, not_true_eq_false, not_false_eq_true]) | (first | refine iE ?_ ?_ | refine iD ?_ ?_ | refine iQ ?_ ?_ | refine iV ?_ ?_) <;> intro _ | refine And.intro (by omega) ?_ | fail)
        intro w8 l8
        repeat' (first | (simp (disch := omega) only [push_cast, ↓reduceIte, zA, zG, zB, zH, zI, zC, zJ, zK, zL, zD, zE, zF, zM, zN, zO, zP, zQ, reduceCtorEq, not_true_eq_false, not_false_eq_true]) | (first | refine iE ?_ ?_ | refine iD ?_ ?_ | refine iQ ?_ ?_ | refine iV ?_ ?_) <;> intro _ | refine And.intro (by omega) ?_ | fail)
        exact ⟨rfl, i + 1, by simp (disch := omega) only [push_cast, ↓reduceIte, zA, zG, zB, zH, zI, zC, zJ, zK, zL, zD, zE, zF, zM, zN, zO, zP, zQ, reduceCtorEq, not_true_eq_false, not_false_eq_true], ⟨by omega, l7.trans l8⟩, by dsimp only; omega⟩
      · have hd3 : decide ((i : Int) < (L.length : Int)) = false := decide_eq_false (by omega)
        repeat' (first | (simp (disch := omega) only [push_cast, ↓reduceIte, zA, zG, zB, zH, zI, zC, zJ, zK, zL, zD, zE, zF, zM, zN, zO, zP, zQ, reduceCtorEq, not_true_eq_false, not_false_eq_true, hd3, List.length_map]) | (first | refine iE ?_ ?_ | refine iD ?_ ?_ | refine iQ ?_ ?_ | refine iV ?_ ?_) <;> intro _ | refine And.intro (by omega) ?_ | fail)
        refine (alive26_c w7).mono ?_
        rintro _ w8 ⟨rfl, l8⟩
        repeat' (first | (simp (disch := omega) only [push_cast, ↓reduceIte, zA, zG, zB, zH, zI, zC, zJ, zK, zL, zD, zE, zF, zM, zN, zO, zP, zQ, reduceCtorEq, not_true_eq_false, not_false_eq_true, decide_true, List.length_map]) | (first | refine iE ?_ ?_ | refine iD ?_ ?_ | refine iQ ?_ ?_ | refine iV ?_ ?_) <;> intro _ | refine And.intro (by omega) ?_ | refine drawn_q ?_ | fail)
        first | exact ⟨rfl, (l06.trans (l7.trans l8))⟩ | exact (l06.trans (l7.trans l8))
    · rw [hR] at hpv ⊢
      dsimp only at hpv
      obtain ⟨po, pc, rfl, hp1, hp2⟩ := RecS.slice hpv
      repeat' (first | (simp (disch := omega) only [push_cast, ↓reduceIte, zA, zG, zB, zH, zI, zC, zJ, zK, zL, zD, zE, zF, zM, zN, zO, zP, zQ, reduceCtorEq, not_true_eq_false, not_false_eq_true, List.length_nil]) | (first | refine iE ?_ ?_ | refine iD ?_ ?_ | refine iQ ?_ ?_ | refine iV ?_ ?_) <;> intro _ | refine And.intro (by omega) ?_ | fail)
      refine (alive26_c w6).mono ?_
      rintro _ w7 ⟨rfl, l7⟩
      repeat' (first | (simp (disch := omega) only [push_cast, ↓reduceIte, zA, zG, zB, zH, zI, zC, zJ, zK, zL, zD, zE, zF, zM, zN, zO, zP, zQ, reduceCtorEq, not_true_eq_false, not_false_eq_true, decide_true, List.length_nil]) | (first | refine iE ?_ ?_ | refine iD ?_ ?_ | refine iQ ?_ ?_ | refine iV ?_ ?_) <;> intro _ | refine And.intro (by omega) ?_ | refine drawn_q ?_ | fail)
      first | exact ⟨rfl, (l06.trans l7)⟩ | exact (l06.trans l7)
theorem own : ownKnob Try.prog.godebug = none := by kernel_rfl
theorem lifted (os : Os) (started : os.Started) (H : Type) (enc : TypeId × Value → H) (F : Stop.Interp) :
    ReturnsInHanded {} Try.checked os 4 .any ((Rows.OpenSpec.upto Rows.selectorAllSpec).pre6 enc Try.prog Try.f4 Rows.selectorAllUptoRow.domain false) (((Rows.OpenSpec.upto Rows.selectorAllSpec).at F).post enc Try.prog Try.f4 false true false false) := by
  refine lifted_laterU own started (by kernel_rfl) Try.func4 hb4
    (OpenSpec.witness (enc := enc) (C := Try.checked) (s := Rows.OpenSpec.upto Rows.selectorAllSpec) (k := Rows.uptoSmall) rfl false ⟨#[], #[.agg #[.slice none 0 0, .slice none 0 0, .slice none 0 0, .slice none 0 0, .int .i64 0, .int .i64 0, .slice none 0 0, .int .i64 0, .slice none 0 0, .slice none 0 0, .string ⟨#[]⟩, .int .i64 0], .agg #[.slice none 0 0, .int .i64 0, .int .i64 0, .int .i64 0, .slice none 0 0, .int .i64 0, .string ⟨#[]⟩, .string ⟨#[]⟩, .slice none 0 0, .slice none 0 0, .int .i64 0, .int .i64 0]], []⟩ 20 (by kernel_rfl) (by kernel_rfl) (by kernel_rfl)
      (x := ([.agg [.agg [.nil, .nil], .agg [.nil, .nil, .lit (.int .i64 0)], .lit (.int .i64 0), .nil, .agg [.lit (.int .i64 0), .nil], .nil, .lit (.string []), .lit (.int .i64 0)], .agg [.nil, .lit (.int .i64 0), .lit (.int .i64 0), .lit (.int .i64 0), .nil, .agg [.lit (.int .i64 0), .lit (.string []), .lit (.string []), .nil], .nil, .lit (.int .i64 0), .lit (.int .i64 0)]], [], [])) (by kernel_rfl) rfl (by kernel_rfl))
    (by kernel_rfl) (list_all (by kernel_rfl)) (by kernel_rfl) Try.underlying4 rfl ?_ ?_
  · intro ds h
    have h : ds.length = 2 := h
    match ds, h with
    | [_, _], _ => rfl
  · intro W base args ds p hval0 hz0 hbk hA0
    have hval : ∀ (j : Nat) t v, Try.f4.params[j]? = some t → args[j]? = some v → Value.okWide Try.prog W .any base t v := hval0
    have hz : ∀ (j : Nat) t d, Try.f4.params.toList[j]? = some t → ds[j]? = some d → Sz Try.prog t d := hz0
    have hA : DataW.TrodAll enc Try.prog W 0 (fun _ => true) true Try.f4.params.toList args.toList ds p := hA0
    rw [Try.params4] at hA hval hz
    obtain ⟨v0, vs0, d0, ds0, p0, q0, hargs, rfl, rfl, h0, r0⟩ := trodAll_cons hA
    obtain ⟨v1, vs1, d1, ds1, p1, q1, rfl, rfl, rfl, h1, r1⟩ := trodAll_cons r0
    obtain ⟨rfl, rfl, rfl⟩ := trodAll_nil r1
    obtain rfl : args = #[v0, v1] := by cases args; simp_all
    simp only [Rows.uptoBulkAll] at hbk
    obtain ⟨cs0, e0, w0⟩ := openZ_agg ⟨_, Try.underlying34⟩ (fun _ => z_manifest) (hval 0 34 v0 rfl rfl) h0 (hz 0 _ _ rfl rfl)
    obtain ⟨cs1, e1, w1⟩ := openZ_agg ⟨_, Try.underlying42⟩ (fun _ => z_query) (hval 1 42 v1 rfl rfl) h1 (hz 1 _ _ rfl rfl)
    obtain ⟨m0, rfl, ok0⟩ := w0
    obtain ⟨b0, c0⟩ := bulk_manifest h0 e0 ok0
    subst e0
    obtain ⟨m1, rfl, ok1⟩ := w1
    subst e1
    exact law_c m0 m1 W ok0 ok1 (by omega) (by omega)
theorem over : Rows.selectorAllUptoRow.holds Try.pinned (Rows.OpenSpec.upto Rows.selectorAllSpec) :=
  OpenClaim.holds_of_cond 4 Try.f4 rfl rfl rfl rfl rfl rfl rfl ⟨rfl, rfl, rfl, rfl, rfl⟩ rfl rfl rfl rfl rfl (by kernel_rfl) Try.func4 (by kernel_rfl)
    (of_decide_eq_true (by kernel_rfl)) (by unfold Func.isWrapper; first | (rw [if_pos (by decide +kernel)]; kernel_rfl) | (rw [if_neg (by decide +kernel)]; exact ⟨rfl, rfl⟩))
    (fun os started H enc _ F => lifted os started H enc F)
/-- The statement, in its second form. -/
theorem proved : Rows.SelectorAllUptoSaid :=
  over
end Go.Proofs.Ytnofalhkapmcnaa.selectorAll
