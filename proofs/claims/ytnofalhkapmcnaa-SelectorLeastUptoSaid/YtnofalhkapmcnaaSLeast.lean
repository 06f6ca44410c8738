/- 'SelectorLeast', the second form: of a right manifest and a typed query of small bulk no cuboid of a file of the tier that is eligible for a stretch has less rows than the plan's. -/
import Derived.Test.YtnofalhkapmcnaaPartM
set_option linter.all false
open Nat renaming reduceEqDiff → zA, reducePow → zB, reduceMul → zC, reduceAdd → zD, reduceSub → zE, reduceLeDiff → zF
open Int renaming reduceToNat → zG, reducePow → zH, reduceNeg → zI, reduceMul → zJ, reduceAdd → zK, reduceSub → zL, reduceLT → zM, reduceLE → zN, reduceEq → zO, reduceMod → zP, reduceDiv → zQ
set_option linter.unusedSimpArgs false
namespace Go.Proofs.Ytnofalhkapmcnaa.selectorLeast
open Go.Vc Go.Key Go.Bkt Go.RowKit Go.ChangeShapes
set_option maxRecDepth 100000
set_option maxHeartbeats 4000000 in
theorem law_c (m : MD) (q : QD) (w : World) (hm : m.Ok w) (hq : q.Ok w) (hd : m.dl.length ≤ 2000000) (hml : m.ml.length ≤ 2000000) : FnC Try.prog 5 #[.agg (mdC m).toArray, .agg (qdC q).toArray] w fun v w' => v = .bool true ∧ Later w w' := by
  refine enter5 _ _ ?_
  unfold B5
  have eca : (Value.agg (mdC m).toArray).cells = (mdC m).toArray := rfl
  have ecb : (Value.agg (qdC q).toArray).cells = (qdC q).toArray := rfl
  obtain ⟨k0, hk0⟩ : ∃ k0, k0 = w.heap.size := ⟨_, rfl⟩
  have la := later_alloc w (.cells (mdC m).toArray 34)
  have Ba := Blk.new w (mdC m).toArray 34
  have sa : (w.alloc (.cells (mdC m).toArray 34)).heap.size = k0 + 1 := by rw [World.size_alloc, hk0]
  rw [← hk0] at Ba
  generalize hwa : w.alloc (.cells (mdC m).toArray 34) = wa at *
  have lb := later_alloc wa (.cells (qdC q).toArray 42)
  have Bb := Blk.new wa (qdC q).toArray 42
  rw [sa] at Bb
  generalize hwb : wa.alloc (.cells (qdC q).toArray 42) = w1 at *
  repeat' (first | (simp (disch := omega) only [push_cast, ↓reduceIte, zA, zG, zB, zH, zI, zC, zJ, zK, zL, zD, zE, zF, zM, zN, zO, zP, zQ, reduceCtorEq, not_true_eq_false, not_false_eq_true, eca, ecb, hwa, sa, hwb, ← hk0]) | (first | refine iE ?_ ?_ | refine iD ?_ ?_ | refine iQ ?_ ?_ | refine iV ?_ ?_) <;> intro _ | refine And.intro (by omega) ?_ | fail)
  have l01 := la.trans lb
  have FF := boxF (mdLater Ba lb) Bb
  clear hwa hwb sa la lb Ba Bb hk0
  have F1 := FF w1 (Later.refl _)
  have g1 := F1.mc
  have g2 := F1.qc
  repeat' (first | (simp (disch := omega) only [push_cast, ↓reduceIte, zA, zG, zB, zH, zI, zC, zJ, zK, zL, zD, zE, zF, zM, zN, zO, zP, zQ, reduceCtorEq, not_true_eq_false, not_false_eq_true, g1, g2]) | (first | refine iE ?_ ?_ | refine iD ?_ ?_ | refine iQ ?_ ?_ | refine iV ?_ ?_) <;> intro _ | refine And.intro (by omega) ?_ | fail)
  refine (fits26_c m q w1 (hm.later l01) (hq.later l01) hd hml).mono ?_
  rintro _ w2 ⟨⟨b, rfl, hb⟩, l2⟩
  have l02 := l01.trans l2
  cases b with
  | false =>
    repeat' (first | (simp (disch := omega) only [push_cast, ↓reduceIte, zA, zG, zB, zH, zI, zC, zJ, zK, zL, zD, zE, zF, zM, zN, zO, zP, zQ, reduceCtorEq, not_true_eq_false, not_false_eq_true]) | (first | refine iE ?_ ?_ | refine iD ?_ ?_ | refine iQ ?_ ?_ | refine iV ?_ ?_) <;> intro _ | refine And.intro (by omega) ?_ | fail)
    refine (alive26_c w2).mono ?_
    rintro _ w3 ⟨rfl, l3⟩
    repeat' (first | (simp (disch := omega) only [push_cast, ↓reduceIte, zA, zG, zB, zH, zI, zC, zJ, zK, zL, zD, zE, zF, zM, zN, zO, zP, zQ, reduceCtorEq, not_true_eq_false, not_false_eq_true]) | (first | refine iE ?_ ?_ | refine iD ?_ ?_ | refine iQ ?_ ?_ | refine iV ?_ ?_) <;> intro _ | refine And.intro (by omega) ?_ | refine drawn_q ?_ | fail)
    first | exact ⟨rfl, (l02.trans l3)⟩ | exact (l02.trans l3)
  | true =>
  have k := (hb rfl).know
  clear hb g1 g2 F1
  have F2 := FF w2 l2
  have g1 := F2.pc
  have g2 := F2.qc
  have g3 := F2.ev
  have ktl := k.tl
  have kel := k.el
  have kfl := k.fl
  have kq := k.q0
  repeat' (first | (simp (disch := omega) only [push_cast, ↓reduceIte, zA, zG, zB, zH, zI, zC, zJ, zK, zL, zD, zE, zF, zM, zN, zO, zP, zQ, reduceCtorEq, not_true_eq_false, not_false_eq_true, g1, g2, g3, addr_add_eq, Nat.zero_add]) | (first | refine iE ?_ ?_ | refine iD ?_ ?_ | refine iQ ?_ ?_ | refine iV ?_ ?_) <;> intro _ | refine And.intro (by omega) ?_ | fail)
  refine (stretches_c m.p m.ev m.el q w2 (hm.p.later l02) (Sl.later hm.ev l02) (hq.later l02) k.el k.fall (by omega)).mono ?_
  rintro lv w3 ⟨hL, l3⟩
  have hL := OwnR.s hL
  have hLl := strL_len q.fr q.to m.el m.p.tl.length
  have hLm := LL26.mem k hm hq
  have hLd : strL q.fr q.to m.el m.p.tl.length = LL26 m q := rfl
  obtain ⟨n, hn⟩ : ∃ n, m.el.length = n + 1 := ⟨m.el.length - 1, by omega⟩
  have hch := strL_ch (fr := q.fr) (to := q.to) (el := m.el) kq.2.1 k.fall n (by omega)
  rw [← hn, kel, hLd] at hch
  rw [hLd] at hL hLl
  obtain ⟨lo, lc, rfl, hl1, hl2⟩ := RecS.slice hL
  obtain ⟨fo, fc, hfv, hf1, hf2⟩ := RecS.slice hm.fv
  have l13 := l2.trans l3
  have l03 := l01.trans l13
  have F3 := FF w3 l13
  have g1 := F3.sc
  have g2 := F3.pc
  have g3 := F3.qc
  have g4 := F3.ev
  have g5 := F3.fv
  have hor := chooseR_or (elB m.dl m.p q) (bestS m.dl m.p q m.fl) (LL26 m q)
  have hrun := choose_c m.dv m.mv m.dl m.ml m.p m.ev m.el q m.fv m.fl w3 (mdSc hm l03) (hm.p.later l03) (Sl.later hm.ev l03) hm.el (hq.later l03) (hm.fv.later l03) hm.fl k.el k.fall (by omega) k.qi (by omega) k.fi.j
  rw [hLd] at hrun
  generalize LL26 m q = L at *
  repeat' (first | (simp (disch := omega) only [push_cast, ↓reduceIte, zA, zG, zB, zH, zI, zC, zJ, zK, zL, zD, zE, zF, zM, zN, zO, zP, zQ, reduceCtorEq, not_true_eq_false, not_false_eq_true, g1, g2, g3, g4, g5, addr_add_eq, Nat.zero_add]) | (first | refine iE ?_ ?_ | refine iD ?_ ?_ | refine iQ ?_ ?_ | refine iV ?_ ?_) <;> intro _ | refine And.intro (by omega) ?_ | fail)
  refine hrun.mono ?_
  rintro _ w4 ⟨⟨pv, rfl, hpv⟩, l4⟩
  generalize chooseR (elB m.dl m.p q) (bestS m.dl m.p q m.fl) L = R at *
  obtain ⟨pl, tr, er⟩ := R
  dsimp only at hpv
  obtain ⟨po, pc, rfl, hp1, hp2⟩ := RecS.slice hpv
  have l14 := l13.trans l4
  have l04 := l01.trans l14
  have hL4 := hL.later l4
  repeat' (first | (simp (disch := omega) only [push_cast, ↓reduceIte, zA, zG, zB, zH, zI, zC, zJ, zK, zL, zD, zE, zF, zM, zN, zO, zP, zQ, reduceCtorEq, not_true_eq_false, not_false_eq_true]) | (first | refine iE ?_ ?_ | refine iD ?_ ?_ | refine iQ ?_ ?_ | refine iV ?_ ?_) <;> intro _ | refine And.intro (by omega) ?_ | fail)
  refine vc_loop W5_0 (fun i : Nat => [(10, .int .i64 (i : Int))]) (fun i w' => i ≤ L.length ∧ Later w4 w') (fun i => L.length - i) 0 (by decide) ?_ ?_ ?_
  · simp (disch := omega) only [push_cast, ↓reduceIte, zA, zG, zB, zH, zI, zC, zJ, zK, zL, zD, zE, zF, zM, zN, zO, zP, zQ, reduceCtorEq, not_true_eq_false, not_false_eq_true]
    try rfl
  · exact ⟨Nat.zero_le _, Later.refl _⟩
  rintro i uu w5 ⟨hi, l5⟩
  by_cases hik : i < L.length
  · have hd2 : decide ((i : Int) < (L.length : Int)) = true := decide_eq_true (by omega)
    have hLA : ∀ w', Later w4 w' → ∃ a, lo = some a ∧ cellsAt w' (a.add (i * 5)) 5 = some (pnC L[i]) ∧ w'.cell? ((a.add (i * 5)).add 2) = some (.int .i64 L[i].tier) := fun w' hl => by
      have h := hL4.later hl
      obtain ⟨a, rfl, fa⟩ := RecS.at pnC_len h hik
      exact ⟨a, rfl, fa, RecS.cell (j := 2) pnC_len h hik rfl⟩
    obtain ⟨hxin, hxf, hxt, hxp, hxr⟩ := hLm _ (List.getElem_mem hik)
    -- what is known of the plans, at this stretch
    have hgood : (er = 0 ∧ elB m.dl m.p q L[i] = true ∧ ∃ hi2 : i < pl.length, pl[i] = bestS m.dl m.p q m.fl L[i]) ∨ (er = 261 ∧ (elB m.dl m.p q L[i] = true → tr ≠ L[i].tier) ∧ (elB m.dl m.p q L[i] = false → tr ≤ L[i].tier)) := by
      rcases hor with ⟨hall, hR⟩ | ⟨i0, hi0, hE0, hb0, hR⟩
      · simp only [Prod.mk.injEq] at hR
        obtain ⟨rfl, rfl, rfl⟩ := hR
        exact .inl ⟨rfl, hall _ (List.getElem_mem hik), by rw [List.length_map]; exact hik, by rw [List.getElem_map]⟩
      · simp only [Prod.mk.injEq] at hR
        obtain ⟨rfl, rfl, rfl⟩ := hR
        refine .inr ⟨rfl, fun he ht => ?_, fun he => ?_⟩
        · rcases Nat.lt_trichotomy i i0 with h | h | h
          · have := hch.up i0 i hi0 hik h; omega
          · subst h; rw [hE0] at he; cases he
          · have := hch.up i i0 hik hi0 h; omega
        · rcases Nat.lt_trichotomy i i0 with h | h | h
          · rw [hb0 i hik h] at he; cases he
          · subst h; exact Int.le_refl _
          · have := hch.up i i0 hik hi0 h; omega
    have hbl : ∀ f ∈ m.fl, f.tier = L[i].tier → elB m.dl m.p q { L[i] with proj := f.proj } = true → elB m.dl m.p q L[i] = true ∧ (bestS m.dl m.p q m.fl L[i]).rows ≤ f.rows := fun f hf ht he => ⟨el_own k hf ht hxp he, bestS_least k hf ht hxp hxr he⟩
    have hPA : ∀ w', Later w4 w' → ∀ hi2 : i < pl.length, ∃ b, po = some b ∧ w'.cell? ((b.add (i * 5)).add 4) = some (.int .i64 pl[i].rows) := fun w' hl hi2 => by
      have h := hpv.later hl
      obtain ⟨b, rfl, fa⟩ := RecS.at pnC_len h hi2
      exact ⟨b, rfl, RecS.cell (j := 4) pnC_len h hi2 rfl⟩
    generalize L[i] = x at *
    have F5 := FF w5 (l14.trans l5)
    have q1 := F5.sc
    have q2 := F5.pc
    have q3 := F5.qc
    have l05 := l04.trans l5
    obtain ⟨a, rfl, fx, _⟩ := hLA w5 l5
    repeat' (first | (simp (disch := omega) only [push_cast, ↓reduceIte, zA, zG, zB, zH, zI, zC, zJ, zK, zL, zD, zE, zF, zM, zN, zO, zP, zQ, reduceCtorEq, not_true_eq_false, not_false_eq_true, hd2]) | (first | refine iE ?_ ?_ | refine iD ?_ ?_ | refine iQ ?_ ?_ | refine iV ?_ ?_) <;> intro _ | refine And.intro (by omega) ?_ | fail)
    refine drawn_q ?_
    repeat' (first | (simp (disch := omega) only [push_cast, ↓reduceIte, zA, zG, zB, zH, zI, zC, zJ, zK, zL, zD, zE, zF, zM, zN, zO, zP, zQ, reduceCtorEq, not_true_eq_false, not_false_eq_true, hd2, q1, q2, q3, fx, addr_add_eq, Nat.zero_add]) | (first | refine iE ?_ ?_ | refine iD ?_ ?_ | refine iQ ?_ ?_ | refine iV ?_ ?_) <;> intro _ | refine And.intro (by omega) ?_ | fail)
    refine QFn.of hb15 (v := .bool (elB m.dl m.p q x)) (fun w' hl => eligible_c m.dv m.mv m.dl m.ml m.p q x w' (mdSc hm (l05.trans hl)) (hm.p.later (l05.trans hl)) (hq.later (l05.trans hl)) hxin k.qi hxf hxt) ?_
    repeat' (first | (simp (disch := omega) only [push_cast, ↓reduceIte, zA, zG, zB, zH, zI, zC, zJ, zK, zL, zD, zE, zF, zM, zN, zO, zP, zQ, reduceCtorEq, not_true_eq_false, not_false_eq_true]) | (first | refine iE ?_ ?_ | refine iD ?_ ?_ | refine iQ ?_ ?_ | refine iV ?_ ?_) <;> intro _ | refine And.intro (by omega) ?_ | fail)
    intro w6 l6
    have l46 := l5.trans l6
    repeat' (first | (simp (disch := omega) only [push_cast, ↓reduceIte, zA, zG, zB, zH, zI, zC, zJ, zK, zL, zD, zE, zF, zM, zN, zO, zP, zQ, reduceCtorEq, not_true_eq_false, not_false_eq_true]) | (first | refine iE ?_ ?_ | refine iD ?_ ?_ | refine iQ ?_ ?_ | refine iV ?_ ?_) <;> intro _ | refine And.intro (by omega) ?_ | fail)
    refine vc_loop W5_1 (fun j : Nat => [(12, .int .i64 (j : Int))]) (fun j w' => j ≤ m.fl.length ∧ Later w4 w') (fun j => m.fl.length - j) 0 (by decide) ?_ ?_ ?_
    · simp (disch := omega) only [push_cast, ↓reduceIte, zA, zG, zB, zH, zI, zC, zJ, zK, zL, zD, zE, zF, zM, zN, zO, zP, zQ, reduceCtorEq, not_true_eq_false, not_false_eq_true]
      try rfl
    · exact ⟨Nat.zero_le _, l46⟩
    rintro j uu2 w7 ⟨hj, l7⟩
    have F7 := FF w7 (l14.trans l7)
    have g1 := F7.fv
    rw [hfv] at g1
    have l07 := l04.trans l7
    by_cases hjk : j < m.fl.length
    · have hd3 : decide ((j : Int) < (m.fl.length : Int)) = true := decide_eq_true (by omega)
      have hfs := hm.fv
      rw [hfv] at hfs
      obtain ⟨fa, rfl, ff⟩ := RecS.at sdC_len (hfs.later l07) hjk
      have hfm := List.getElem_mem hjk
      generalize m.fl[j] = f at *
      repeat' (first | (simp (disch := omega) only [push_cast, ↓reduceIte, zA, zG, zB, zH, zI, zC, zJ, zK, zL, zD, zE, zF, zM, zN, zO, zP, zQ, reduceCtorEq, not_true_eq_false, not_false_eq_true, hd3, g1, ff, addr_add_eq, Nat.zero_add]) | (first | refine iE ?_ ?_ | refine iD ?_ ?_ | refine iQ ?_ ?_ | refine iV ?_ ?_) <;> intro _ | refine And.intro (by omega) ?_ | fail)
      refine vStore_new rfl rfl (by intro u hu; simp only [sdC, List.mem_toArray, List.mem_cons, List.not_mem_nil, or_false] at hu; rcases hu with rfl | rfl | rfl | rfl <;> rfl) ?_
      have l8 := later_alloc w7 (.cells (sdC f).toArray 57)
      have Bf := Blk.new w7 (sdC f).toArray 57
      generalize w7.alloc (.cells (sdC f).toArray 57) = w8 at *
      generalize w7.heap.size = kf at *
      have l48 := l7.trans l8
      obtain ⟨c1, c2, c3⟩ := sdB Bf
      obtain ⟨a', ha', fx8, t8⟩ := hLA w8 l48
      obtain rfl := Option.some.inj ha'
      by_cases ht : f.tier = x.tier
      case neg =>
        have d1 := decide_eq_false ht
        repeat' (first | (simp (disch := omega) only [push_cast, ↓reduceIte, zA, zG, zB, zH, zI, zC, zJ, zK, zL, zD, zE, zF, zM, zN, zO, zP, zQ, reduceCtorEq, not_true_eq_false, not_false_eq_true, hd2]) | (first | refine iE ?_ ?_ | refine iD ?_ ?_ | refine iQ ?_ ?_ | refine iV ?_ ?_) <;> intro _ | refine And.intro (by omega) ?_ | fail)
        refine drawn_q ?_
        repeat' (first | (simp (disch := omega) only [push_cast, ↓reduceIte, zA, zG, zB, zH, zI, zC, zJ, zK, zL, zD, zE, zF, zM, zN, zO, zP, zQ, reduceCtorEq, not_true_eq_false, not_false_eq_true, hd2, c1, t8, d1, addr_add_eq, Nat.zero_add]) | (first | refine iE ?_ ?_ | refine iD ?_ ?_ | refine iQ ?_ ?_ | refine iV ?_ ?_) <;> intro _ | refine And.intro (by omega) ?_ | fail)
        intro w9 l9
        repeat' (first | (simp (disch := omega) only [push_cast, ↓reduceIte, zA, zG, zB, zH, zI, zC, zJ, zK, zL, zD, zE, zF, zM, zN, zO, zP, zQ, reduceCtorEq, not_true_eq_false, not_false_eq_true]) | (first | refine iE ?_ ?_ | refine iD ?_ ?_ | refine iQ ?_ ?_ | refine iV ?_ ?_) <;> intro _ | refine And.intro (by omega) ?_ | fail)
        exact ⟨rfl, j + 1, by simp (disch := omega) only [push_cast, ↓reduceIte, zA, zG, zB, zH, zI, zC, zJ, zK, zL, zD, zE, zF, zM, zN, zO, zP, zQ, reduceCtorEq, not_true_eq_false, not_false_eq_true], ⟨by omega, l48.trans l9⟩, by dsimp only; omega⟩
      have d1 := decide_eq_true ht
      repeat' (first | (simp (disch := omega) only [push_cast, ↓reduceIte, zA, zG, zB, zH, zI, zC, zJ, zK, zL, zD, zE, zF, zM, zN, zO, zP, zQ, reduceCtorEq, not_true_eq_false, not_false_eq_true, hd2]) | (first | refine iE ?_ ?_ | refine iD ?_ ?_ | refine iQ ?_ ?_ | refine iV ?_ ?_) <;> intro _ | refine And.intro (by omega) ?_ | fail)
      refine drawn_q ?_
      repeat' (first | (simp (disch := omega) only [push_cast, ↓reduceIte, zA, zG, zB, zH, zI, zC, zJ, zK, zL, zD, zE, zF, zM, zN, zO, zP, zQ, reduceCtorEq, not_true_eq_false, not_false_eq_true, hd2, c1, t8, d1, addr_add_eq, Nat.zero_add]) | (first | refine iE ?_ ?_ | refine iD ?_ ?_ | refine iQ ?_ ?_ | refine iV ?_ ?_) <;> intro _ | refine And.intro (by omega) ?_ | fail)
      intro w9 l9
      have fx9 := cellsAt_later l9 5 fx8
      have Bf := Bf.chg (Chg.of_later (ks := []) l9) (by simp)
      obtain ⟨c1, c2, c3⟩ := sdB Bf
      have l49 := l48.trans l9
      repeat' (first | (simp (disch := omega) only [push_cast, ↓reduceIte, zA, zG, zB, zH, zI, zC, zJ, zK, zL, zD, zE, zF, zM, zN, zO, zP, zQ, reduceCtorEq, not_true_eq_false, not_false_eq_true, hd2, fx9, addr_add_eq, Nat.zero_add]) | (first | refine iE ?_ ?_ | refine iD ?_ ?_ | refine iQ ?_ ?_ | refine iV ?_ ?_) <;> intro _ | refine And.intro (by omega) ?_ | fail)
      refine vStore_new rfl rfl (fun u hu => pnC_one x u (by simpa using hu)) ?_
      have l10 := later_alloc w9 (.cells (pnC x).toArray 49)
      have By := Blk.new w9 (pnC x).toArray 49
      have z10 := l49.size
      have Bf := Bf.chg (Chg.of_later (ks := []) l10) (by simp)
      generalize w9.alloc (.cells (pnC x).toArray 49) = w10 at *
      generalize w9.heap.size = ky at *
      have l410 := l49.trans l10
      have hne := blk_ne Bf By (by decide)
      obtain ⟨c1, c2, c3⟩ := sdB Bf
      obtain ⟨_, _, _, y3, _⟩ := pnB By
      have fz := By.frozen 3
      have B11 := By.set 3 (.int .i64 f.proj)
      have ch : Chg w10 (w10.setCell ⟨ky, 3, none⟩ (.int .i64 f.proj)) [ky] := chg_setCell w10 (by simp) _
      have B11 : Blk (w10.setCell ⟨ky, 3, none⟩ (.int .i64 f.proj)) ky (pnC { x with proj := f.proj }).toArray 49 := B11
      repeat' (first | (simp (disch := omega) only [push_cast, ↓reduceIte, zA, zG, zB, zH, zI, zC, zJ, zK, zL, zD, zE, zF, zM, zN, zO, zP, zQ, reduceCtorEq, not_true_eq_false, not_false_eq_true, c2, y3, fz, addr_add_eq, Nat.zero_add]) | (first | refine iE ?_ ?_ | refine iD ?_ ?_ | refine iQ ?_ ?_ | refine iV ?_ ?_) <;> intro _ | refine And.intro (by omega) ?_ | fail)
      have Bf := Bf.chg ch (by simpa using hne)
      generalize w10.setCell ⟨ky, 3, none⟩ (.int .i64 f.proj) = w11 at *
      have l411 := Chg.later l410 ch (by intro j hj; rw [List.mem_singleton.1 hj]; exact z10)
      have F11 := FF w11 (l14.trans l411)
      have q1 := F11.sc
      have q2 := F11.pc
      have q3 := F11.qc
      have l011 := l04.trans l411
      have fy : cellsAt w11 ⟨ky, 0, none⟩ 5 = some (pnC { x with proj := f.proj }) := Blk.cellsAt (l := pnC { x with proj := f.proj }) B11
      repeat' (first | (simp (disch := omega) only [push_cast, ↓reduceIte, zA, zG, zB, zH, zI, zC, zJ, zK, zL, zD, zE, zF, zM, zN, zO, zP, zQ, reduceCtorEq, not_true_eq_false, not_false_eq_true, q1, q2, q3, fy, addr_add_eq, Nat.zero_add]) | (first | refine iE ?_ ?_ | refine iD ?_ ?_ | refine iQ ?_ ?_ | refine iV ?_ ?_) <;> intro _ | refine And.intro (by omega) ?_ | fail)
      refine (eligible_c m.dv m.mv m.dl m.ml m.p q { x with proj := f.proj } w11 (mdSc hm l011) (hm.p.later l011) (hq.later l011) ⟨hxin.t, k.fi.j f hfm⟩ k.qi hxf hxt).mono ?_
      rintro _ w12 ⟨rfl, l12⟩
      have l412 := l411.trans l12
      have Bf := Bf.chg (Chg.of_later (ks := []) l12) (by simp)
      obtain ⟨c1, c2, c3⟩ := sdB Bf
      cases hie : elB m.dl m.p q { x with proj := f.proj } with
      | false =>
        repeat' (first | (simp (disch := omega) only [push_cast, ↓reduceIte, zA, zG, zB, zH, zI, zC, zJ, zK, zL, zD, zE, zF, zM, zN, zO, zP, zQ, reduceCtorEq, not_true_eq_false, not_false_eq_true, hd2]) | (first | refine iE ?_ ?_ | refine iD ?_ ?_ | refine iQ ?_ ?_ | refine iV ?_ ?_) <;> intro _ | refine And.intro (by omega) ?_ | fail)
        refine drawn_q ?_
        repeat' (first | (simp (disch := omega) only [push_cast, ↓reduceIte, zA, zG, zB, zH, zI, zC, zJ, zK, zL, zD, zE, zF, zM, zN, zO, zP, zQ, reduceCtorEq, not_true_eq_false, not_false_eq_true, hd2]) | (first | refine iE ?_ ?_ | refine iD ?_ ?_ | refine iQ ?_ ?_ | refine iV ?_ ?_) <;> intro _ | refine And.intro (by omega) ?_ | fail)
        intro w13 l13'
        repeat' (first | (simp (disch := omega) only [push_cast, ↓reduceIte, zA, zG, zB, zH, zI, zC, zJ, zK, zL, zD, zE, zF, zM, zN, zO, zP, zQ, reduceCtorEq, not_true_eq_false, not_false_eq_true]) | (first | refine iE ?_ ?_ | refine iD ?_ ?_ | refine iQ ?_ ?_ | refine iV ?_ ?_) <;> intro _ | refine And.intro (by omega) ?_ | fail)
        exact ⟨rfl, j + 1, by simp (disch := omega) only [push_cast, ↓reduceIte, zA, zG, zB, zH, zI, zC, zJ, zK, zL, zD, zE, zF, zM, zN, zO, zP, zQ, reduceCtorEq, not_true_eq_false, not_false_eq_true], ⟨by omega, l412.trans l13'⟩, by dsimp only; omega⟩
      | true =>
        obtain ⟨hown, hrows⟩ := hbl f hfm ht hie
        rcases hgood with ⟨he0, _, hi2, hpe⟩ | ⟨he1, hne1, _⟩
        · have e0 := decide_eq_true he0
          obtain ⟨b, rfl, pr⟩ := hPA w12 l412 hi2
          rw [hpe] at pr
          have dl' : decide (i < pl.length) = true := decide_eq_true hi2
          have dl : decide ((i : Int) < (pl.length : Int)) = true := decide_eq_true (by omega)
          have dr : decide (f.rows < (bestS m.dl m.p q m.fl x).rows) = false := decide_eq_false (by omega)
          repeat' (first | (simp (disch := omega) only [push_cast, ↓reduceIte, zA, zG, zB, zH, zI, zC, zJ, zK, zL, zD, zE, zF, zM, zN, zO, zP, zQ, reduceCtorEq, not_true_eq_false, not_false_eq_true, hd2]) | (first | refine iE ?_ ?_ | refine iD ?_ ?_ | refine iQ ?_ ?_ | refine iV ?_ ?_) <;> intro _ | refine And.intro (by omega) ?_ | fail)
          refine drawn_q ?_
          repeat' (first | (simp (disch := omega) only [push_cast, ↓reduceIte, zA, zG, zB, zH, zI, zC, zJ, zK, zL, zD, zE, zF, zM, zN, zO, zP, zQ, reduceCtorEq, not_true_eq_false, not_false_eq_true, hd2, hown, e0, c1, c3, pr, dl, dr, addr_add_eq, Nat.zero_add]) | (first | refine iE ?_ ?_ | refine iD ?_ ?_ | refine iQ ?_ ?_ | refine iV ?_ ?_) <;> intro _ | refine And.intro (by omega) ?_ | fail)
          intro w13 l13'
          repeat' (first | (simp (disch := omega) only [push_cast, ↓reduceIte, zA, zG, zB, zH, zI, zC, zJ, zK, zL, zD, zE, zF, zM, zN, zO, zP, zQ, reduceCtorEq, not_true_eq_false, not_false_eq_true]) | (first | refine iE ?_ ?_ | refine iD ?_ ?_ | refine iQ ?_ ?_ | refine iV ?_ ?_) <;> intro _ | refine And.intro (by omega) ?_ | fail)
          exact ⟨rfl, j + 1, by simp (disch := omega) only [push_cast, ↓reduceIte, zA, zG, zB, zH, zI, zC, zJ, zK, zL, zD, zE, zF, zM, zN, zO, zP, zQ, reduceCtorEq, not_true_eq_false, not_false_eq_true], ⟨by omega, l412.trans l13'⟩, by dsimp only; omega⟩
        · have e0 : decide (er = 0) = false := decide_eq_false (by omega)
          have dr : decide (f.tier = tr) = false := decide_eq_false (by have := hne1 hown; omega)
          have dr2 : decide (x.tier = tr) = false := decide_eq_false (by have := hne1 hown; omega)
          repeat' (first | (simp (disch := omega) only [push_cast, ↓reduceIte, zA, zG, zB, zH, zI, zC, zJ, zK, zL, zD, zE, zF, zM, zN, zO, zP, zQ, reduceCtorEq, not_true_eq_false, not_false_eq_true, hd2]) | (first | refine iE ?_ ?_ | refine iD ?_ ?_ | refine iQ ?_ ?_ | refine iV ?_ ?_) <;> intro _ | refine And.intro (by omega) ?_ | fail)
          refine drawn_q ?_
          repeat' (first | (simp (disch := omega) only [push_cast, ↓reduceIte, zA, zG, zB, zH, zI, zC, zJ, zK, zL, zD, zE, zF, zM, zN, zO, zP, zQ, reduceCtorEq, not_true_eq_false, not_false_eq_true, hd2, hown, e0, c1, c3, dr, dr2, addr_add_eq, Nat.zero_add]) | (first | refine iE ?_ ?_ | refine iD ?_ ?_ | refine iQ ?_ ?_ | refine iV ?_ ?_) <;> intro _ | refine And.intro (by omega) ?_ | fail)
          intro w13 l13'
          repeat' (first | (simp (disch := omega) only [push_cast, ↓reduceIte, zA, zG, zB, zH, zI, zC, zJ, zK, zL, zD, zE, zF, zM, zN, zO, zP, zQ, reduceCtorEq, not_true_eq_false, not_false_eq_true]) | (first | refine iE ?_ ?_ | refine iD ?_ ?_ | refine iQ ?_ ?_ | refine iV ?_ ?_) <;> intro _ | refine And.intro (by omega) ?_ | fail)
          exact ⟨rfl, j + 1, by simp (disch := omega) only [push_cast, ↓reduceIte, zA, zG, zB, zH, zI, zC, zJ, zK, zL, zD, zE, zF, zM, zN, zO, zP, zQ, reduceCtorEq, not_true_eq_false, not_false_eq_true], ⟨by omega, l412.trans l13'⟩, by dsimp only; omega⟩
    · have hd3 : decide ((j : Int) < (m.fl.length : Int)) = false := decide_eq_false (by omega)
      obtain ⟨a', ha', fx7, t7⟩ := hLA w7 l7
      obtain rfl := Option.some.inj ha'
      rcases hgood with ⟨he0, hown, _⟩ | ⟨he1, _, hle⟩
      · repeat' (first | (simp (disch := omega) only [push_cast, ↓reduceIte, zA, zG, zB, zH, zI, zC, zJ, zK, zL, zD, zE, zF, zM, zN, zO, zP, zQ, reduceCtorEq, not_true_eq_false, not_false_eq_true, hd3, g1, hown, addr_add_eq, Nat.zero_add]) | (first | refine iE ?_ ?_ | refine iD ?_ ?_ | refine iQ ?_ ?_ | refine iV ?_ ?_) <;> intro _ | refine And.intro (by omega) ?_ | fail)
        exact ⟨rfl, i + 1, by simp (disch := omega) only [push_cast, ↓reduceIte, zA, zG, zB, zH, zI, zC, zJ, zK, zL, zD, zE, zF, zM, zN, zO, zP, zQ, reduceCtorEq, not_true_eq_false, not_false_eq_true], ⟨by omega, l7⟩, by dsimp only; omega⟩
      · cases hown : elB m.dl m.p q x with
        | true =>
          repeat' (first | (simp (disch := omega) only [push_cast, ↓reduceIte, zA, zG, zB, zH, zI, zC, zJ, zK, zL, zD, zE, zF, zM, zN, zO, zP, zQ, reduceCtorEq, not_true_eq_false, not_false_eq_true, hd3, g1, addr_add_eq, Nat.zero_add]) | (first | refine iE ?_ ?_ | refine iD ?_ ?_ | refine iQ ?_ ?_ | refine iV ?_ ?_) <;> intro _ | refine And.intro (by omega) ?_ | fail)
          exact ⟨rfl, i + 1, by simp (disch := omega) only [push_cast, ↓reduceIte, zA, zG, zB, zH, zI, zC, zJ, zK, zL, zD, zE, zF, zM, zN, zO, zP, zQ, reduceCtorEq, not_true_eq_false, not_false_eq_true], ⟨by omega, l7⟩, by dsimp only; omega⟩
        | false =>
          have e0 : decide (er = 0) = false := decide_eq_false (by omega)
          have dt : decide (x.tier < tr) = false := decide_eq_false (by have := hle hown; omega)
          repeat' (first | (simp (disch := omega) only [push_cast, ↓reduceIte, zA, zG, zB, zH, zI, zC, zJ, zK, zL, zD, zE, zF, zM, zN, zO, zP, zQ, reduceCtorEq, not_true_eq_false, not_false_eq_true, hd2, hd3, g1, e0, t7, dt, addr_add_eq, Nat.zero_add]) | (first | refine iE ?_ ?_ | refine iD ?_ ?_ | refine iQ ?_ ?_ | refine iV ?_ ?_) <;> intro _ | refine And.intro (by omega) ?_ | fail)
          exact ⟨rfl, i + 1, by simp (disch := omega) only [push_cast, ↓reduceIte, zA, zG, zB, zH, zI, zC, zJ, zK, zL, zD, zE, zF, zM, zN, zO, zP, zQ, reduceCtorEq, not_true_eq_false, not_false_eq_true], ⟨by omega, l7⟩, by dsimp only; omega⟩
  · have hd2 : decide ((i : Int) < (L.length : Int)) = false := decide_eq_false (by omega)
    repeat' (first | (simp (disch := omega) only [push_cast, ↓reduceIte, zA, zG, zB, zH, zI, zC, zJ, zK, zL, zD, zE, zF, zM, zN, zO, zP, zQ, reduceCtorEq, not_true_eq_false, not_false_eq_true, hd2]) | (first | refine iE ?_ ?_ | refine iD ?_ ?_ | refine iQ ?_ ?_ | refine iV ?_ ?_) <;> intro _ | refine And.intro (by omega) ?_ | fail)
    refine (alive26_c w5).mono ?_
    rintro _ w6 ⟨rfl, l6⟩
    repeat' (first | (simp (disch := omega) only [push_cast, ↓reduceIte, zA, zG, zB, zH, zI, zC, zJ, zK, zL, zD, zE, zF, zM, zN, zO, zP, zQ, reduceCtorEq, not_true_eq_false, not_false_eq_true]) | (first | refine iE ?_ ?_ | refine iD ?_ ?_ | refine iQ ?_ ?_ | refine iV ?_ ?_) <;> intro _ | refine And.intro (by omega) ?_ | refine drawn_q ?_ | fail)
    first | exact ⟨rfl, (l04.trans (l5.trans l6))⟩ | exact (l04.trans (l5.trans l6))
theorem own : ownKnob Try.prog.godebug = none := by kernel_rfl
theorem lifted (os : Os) (started : os.Started) (H : Type) (enc : TypeId × Value → H) (F : Stop.Interp) :
    ReturnsInHanded {} Try.checked os 5 .any ((Rows.OpenSpec.upto Rows.selectorLeastSpec).pre6 enc Try.prog Try.f5 Rows.selectorLeastUptoRow.domain false) (((Rows.OpenSpec.upto Rows.selectorLeastSpec).at F).post enc Try.prog Try.f5 false true false false) := by
  refine lifted_laterU own started (by kernel_rfl) Try.func5 hb5
    (OpenSpec.witness (enc := enc) (C := Try.checked) (s := Rows.OpenSpec.upto Rows.selectorLeastSpec) (k := Rows.uptoSmall) rfl false ⟨#[], #[.agg #[.slice none 0 0, .slice none 0 0, .slice none 0 0, .slice none 0 0, .int .i64 0, .int .i64 0, .slice none 0 0, .int .i64 0, .slice none 0 0, .slice none 0 0, .string ⟨#[]⟩, .int .i64 0], .agg #[.slice none 0 0, .int .i64 0, .int .i64 0, .int .i64 0, .slice none 0 0, .int .i64 0, .string ⟨#[]⟩, .string ⟨#[]⟩, .slice none 0 0, .slice none 0 0, .int .i64 0, .int .i64 0]], []⟩ 20 (by kernel_rfl) (by kernel_rfl) (by kernel_rfl)
      (x := ([.agg [.agg [.nil, .nil], .agg [.nil, .nil, .lit (.int .i64 0)], .lit (.int .i64 0), .nil, .agg [.lit (.int .i64 0), .nil], .nil, .lit (.string []), .lit (.int .i64 0)], .agg [.nil, .lit (.int .i64 0), .lit (.int .i64 0), .lit (.int .i64 0), .nil, .agg [.lit (.int .i64 0), .lit (.string []), .lit (.string []), .nil], .nil, .lit (.int .i64 0), .lit (.int .i64 0)]], [], [])) (by kernel_rfl) rfl (by kernel_rfl))
    (by kernel_rfl) (list_all (by kernel_rfl)) (by kernel_rfl) Try.underlying4 rfl ?_ ?_
  · intro ds h
    have h : ds.length = 2 := h
    match ds, h with
    | [_, _], _ => rfl
  · intro W base args ds p hval0 hz0 hbk hA0
    have hval : ∀ (j : Nat) t v, Try.f5.params[j]? = some t → args[j]? = some v → Value.okWide Try.prog W .any base t v := hval0
    have hz : ∀ (j : Nat) t d, Try.f5.params.toList[j]? = some t → ds[j]? = some d → Sz Try.prog t d := hz0
    have hA : DataW.TrodAll enc Try.prog W 0 (fun _ => true) true Try.f5.params.toList args.toList ds p := hA0
    rw [Try.params5] at hA hval hz
    obtain ⟨v0, vs0, d0, ds0, p0, q0, hargs, rfl, rfl, h0, r0⟩ := trodAll_cons hA
    obtain ⟨v1, vs1, d1, ds1, p1, q1, rfl, rfl, rfl, h1, r1⟩ := trodAll_cons r0
    obtain ⟨rfl, rfl, rfl⟩ := trodAll_nil r1
    obtain rfl : args = #[v0, v1] := by cases args; simp_all
    simp only [Rows.uptoBulkAll] at hbk
    obtain ⟨cs0, e0, w0⟩ := openZ_agg ⟨_, Try.underlying34⟩ (fun _ => z_manifest) (hval 0 34 v0 rfl rfl) h0 (hz 0 _ _ rfl rfl)
    obtain ⟨cs1, e1, w1⟩ := openZ_agg ⟨_, Try.underlying42⟩ (fun _ => z_query) (hval 1 42 v1 rfl rfl) h1 (hz 1 _ _ rfl rfl)
    obtain ⟨m0, rfl, ok0⟩ := w0
    obtain ⟨b0, c0⟩ := bulk_manifest h0 e0 ok0
    subst e0
    obtain ⟨m1, rfl, ok1⟩ := w1
    subst e1
    exact law_c m0 m1 W ok0 ok1 (by omega) (by omega)
theorem over : Rows.selectorLeastUptoRow.holds Try.pinned (Rows.OpenSpec.upto Rows.selectorLeastSpec) :=
  OpenClaim.holds_of_cond 5 Try.f5 rfl rfl rfl rfl rfl rfl rfl ⟨rfl, rfl, rfl, rfl, rfl⟩ rfl rfl rfl rfl rfl (by kernel_rfl) Try.func5 (by kernel_rfl)
    (of_decide_eq_true (by kernel_rfl)) (by unfold Func.isWrapper; first | (rw [if_pos (by decide +kernel)]; kernel_rfl) | (rw [if_neg (by decide +kernel)]; exact ⟨rfl, rfl⟩))
    (fun os started H enc _ F => lifted os started H enc F)
/-- The statement, in its second form. -/
theorem proved : Rows.SelectorLeastUptoSaid :=
  over
end Go.Proofs.Ytnofalhkapmcnaa.selectorLeast
