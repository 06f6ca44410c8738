/- VaultPlays holds for every input: any script on a vault answers as the document's vault does, and behind each act both have the same. -/
import Derived.Test.YtmfcnooleejgmaaRows
import Derived.Test.YtmfcnooleejgmaaPartJ
set_option linter.all false
open Nat renaming reduceEqDiff → zA, reducePow → zB, reduceMul → zC, reduceAdd → zD, reduceSub → zE, reduceLeDiff → zF
open Int renaming reduceToNat → zG, reducePow → zH, reduceNeg → zI, reduceMul → zJ, reduceAdd → zK, reduceSub → zL, reduceLT → zM, reduceLE → zN, reduceEq → zO, reduceMod → zP, reduceDiv → zQ
set_option linter.unusedSimpArgs false
namespace Go.Proofs.Ytmfcnooleejgmaa.vaultPlays
open Go.Vc Go.Vlt Go.Key Go.ChangeShapes Go.WideShapes Go.ChangeAt Go.RowKit
set_option maxRecDepth 100000
theorem vd_ne {w : World} {bk r bm : Nat} {s t : Vst} (h : VS w bk r s) (h' : DV w bm t) : bm ≠ bk := by
  obtain ⟨es, c, h1, h2⟩ := h
  obtain ⟨lv, ds, h'⟩ := h'
  rintro rfl
  exact blk_ty h1.blk (by decide) _ h'.blk
theorem dv_lt {w : World} {bm : Nat} {t : Vst} (h : DV w bm t) : bm < w.heap.size := by
  obtain ⟨lv, ds, h'⟩ := h
  exact h'.blk.lt
theorem chg_later1 {w w1 w2 : World} {bm : Nat} (h : Later w w1) (c : Chg w1 w2 [bm]) (hb : w.heap.size ≤ bm) : Later w w2 :=
  Chg.later h c fun k hk => by rw [List.mem_singleton.1 hk]; exact hb
/-- Two vaults with one state. -/
structure PS (w w' : World) (bk r bm : Nat) (s : Vst) : Prop where
  later : Later w w'
  hbk : w.heap.size ≤ bk
  hr : w.heap.size ≤ r
  hbm : w.heap.size ≤ bm
  v : VS w' bk r s
  m : DV w' bm s
  good : Good s
theorem PS.next {w w1 w2 : World} {bk r bm : Nat} {s : Vst} (h : PS w w1 bk r bm s) (hl : Later w1 w2) : PS w w2 bk r bm s := ⟨h.later.trans hl, h.hbk, h.hr, h.hbm, h.v.later hl, h.m.later hl, h.good⟩
structure Pst where
  i : Nat
  bk : Nat
  r : Nat
  bm : Nat
  s : Vst
set_option maxHeartbeats 8000000 in
theorem law_c (room : Int) (sv : Value) (l : List ActD) (w : World) (hro : -9223372036854775808 ≤ room ∧ room ≤ 9223372036854775807) (hs : RecS acC 5 w sv l) (hx : ∀ x ∈ l, x.Ok w) : FnC Try.prog 5 #[.int .i64 room, sv] w fun v w' => v = .bool true ∧ Later w w' := by
  obtain ⟨so, sc, rfl, hs1, hs2⟩ := RecS.slice hs
  refine enter5 _ _ ?_
  unfold B5
  repeat' (first | (simp (disch := omega) only [push_cast, ↓reduceIte, zA, zG, zB, zH, zI, zC, zJ, zK, zL, zD, zE, zF, zM, zN, zO, zP, zQ, reduceCtorEq, not_true_eq_false, not_false_eq_true]) | (first | refine vIfE_of ?_ ?_ | refine vIfD_of ?_ ?_ | refine vIfQ_of ?_ ?_ | refine vIfV_of ?_ ?_) <;> intro _ | refine And.intro (by omega) ?_ | refine drawn_q ?_ | fail)
  refine (new_s room w hro).mono ?_
  rintro _ w1 ⟨⟨rfl, hno⟩ | ⟨hr0, hr1, bk, r, hbk, hr, rfl, V1⟩, l1⟩
  · repeat' (first | (simp (disch := omega) only [push_cast, ↓reduceIte, zA, zG, zB, zH, zI, zC, zJ, zK, zL, zD, zE, zF, zM, zN, zO, zP, zQ, reduceCtorEq, not_true_eq_false, not_false_eq_true]) | (first | refine vIfE_of ?_ ?_ | refine vIfD_of ?_ ?_ | refine vIfQ_of ?_ ?_ | refine vIfV_of ?_ ?_) <;> intro _ | refine And.intro (by omega) ?_ | refine drawn_q ?_ | fail)
    refine (new_d room w1 hro).mono ?_
    rintro _ w2 ⟨⟨rfl, _⟩ | ⟨hr0, hr1, bm, _, rfl, _⟩, l2⟩
    · repeat' (first | (simp (disch := omega) only [push_cast, ↓reduceIte, zA, zG, zB, zH, zI, zC, zJ, zK, zL, zD, zE, zF, zM, zN, zO, zP, zQ, reduceCtorEq, not_true_eq_false, not_false_eq_true]) | (first | refine vIfE_of ?_ ?_ | refine vIfD_of ?_ ?_ | refine vIfQ_of ?_ ?_ | refine vIfV_of ?_ ?_) <;> intro _ | refine And.intro (by omega) ?_ | refine drawn_q ?_ | fail)
      refine (alive_c w2).mono ?_
      rintro _ w3 ⟨rfl, l3⟩
      repeat' (first | (simp (disch := omega) only [push_cast, ↓reduceIte, zA, zG, zB, zH, zI, zC, zJ, zK, zL, zD, zE, zF, zM, zN, zO, zP, zQ, reduceCtorEq, not_true_eq_false, not_false_eq_true]) | (first | refine vIfE_of ?_ ?_ | refine vIfD_of ?_ ?_ | refine vIfQ_of ?_ ?_ | refine vIfV_of ?_ ?_) <;> intro _ | refine And.intro (by omega) ?_ | refine drawn_q ?_ | fail)
      first | exact ⟨rfl, (l1.trans (l2.trans l3))⟩ | exact (l1.trans (l2.trans l3))
    · exact absurd ⟨hr0, hr1⟩ hno
  repeat' (first | (simp (disch := omega) only [push_cast, ↓reduceIte, zA, zG, zB, zH, zI, zC, zJ, zK, zL, zD, zE, zF, zM, zN, zO, zP, zQ, reduceCtorEq, not_true_eq_false, not_false_eq_true]) | (first | refine vIfE_of ?_ ?_ | refine vIfD_of ?_ ?_ | refine vIfQ_of ?_ ?_ | refine vIfV_of ?_ ?_) <;> intro _ | refine And.intro (by omega) ?_ | refine drawn_q ?_ | fail)
  refine (new_d room w1 hro).mono ?_
  rintro _ w2 ⟨⟨rfl, hno⟩ | ⟨_, _, bm, hbm, rfl, D2⟩, l2⟩
  · exact absurd ⟨hr0, hr1⟩ hno
  have S2 : PS w w2 bk r bm (s0 room) := ⟨l1.trans l2, hbk, hr, Nat.le_trans l1.size hbm, V1.later l2, D2, s0_good ⟨hr0, hr1⟩⟩
  clear V1 D2 l1 l2 hbk hr hbm
  repeat' (first | (simp (disch := omega) only [push_cast, ↓reduceIte, zA, zG, zB, zH, zI, zC, zJ, zK, zL, zD, zE, zF, zM, zN, zO, zP, zQ, reduceCtorEq, not_true_eq_false, not_false_eq_true]) | (first | refine vIfE_of ?_ ?_ | refine vIfD_of ?_ ?_ | refine vIfQ_of ?_ ?_ | refine vIfV_of ?_ ?_) <;> intro _ | refine And.intro (by omega) ?_ | refine drawn_q ?_ | fail)
  refine vc_loop W5_0 (fun p : Pst => [(4, .bool false), (5, .pointer (some ⟨p.bk, 0, none⟩)), (7, .pointer (some ⟨p.bm, 0, none⟩)), (9, .int .i64 (p.i : Int))]) (fun p w' => p.i ≤ l.length ∧ PS w w' p.bk p.r p.bm p.s) (fun p => l.length - p.i) ⟨0, bk, r, bm, s0 room⟩ (by decide) ?_ ?_ ?_
  · simp (disch := omega) only [push_cast, ↓reduceIte, zA, zG, zB, zH, zI, zC, zJ, zK, zL, zD, zE, zF, zM, zN, zO, zP, zQ, reduceCtorEq, not_true_eq_false, not_false_eq_true]
  · exact ⟨Nat.zero_le _, S2⟩
  clear S2
  rintro ⟨i, bk, r, bm, s⟩ uu w2 ⟨hi, S2⟩
  dsimp only at hi S2 ⊢
  by_cases hlt : i < l.length
  case neg =>
    have hd : decide ((i : Int) < (l.length : Int)) = false := decide_eq_false (by omega)
    repeat' (first | (simp (disch := omega) only [push_cast, ↓reduceIte, zA, zG, zB, zH, zI, zC, zJ, zK, zL, zD, zE, zF, zM, zN, zO, zP, zQ, reduceCtorEq, not_true_eq_false, not_false_eq_true, hd]) | (first | refine vIfE_of ?_ ?_ | refine vIfD_of ?_ ?_ | refine vIfQ_of ?_ ?_ | refine vIfV_of ?_ ?_) <;> intro _ | refine And.intro (by omega) ?_ | refine drawn_q ?_ | fail)
    refine (alive_c w2).mono ?_
    rintro _ w3 ⟨rfl, l3⟩
    repeat' (first | (simp (disch := omega) only [push_cast, ↓reduceIte, zA, zG, zB, zH, zI, zC, zJ, zK, zL, zD, zE, zF, zM, zN, zO, zP, zQ, reduceCtorEq, not_true_eq_false, not_false_eq_true]) | (first | refine vIfE_of ?_ ?_ | refine vIfD_of ?_ ?_ | refine vIfQ_of ?_ ?_ | refine vIfV_of ?_ ?_) <;> intro _ | refine And.intro (by omega) ?_ | refine drawn_q ?_ | fail)
    first | exact ⟨rfl, (S2.later.trans l3)⟩ | exact (S2.later.trans l3)
  have hd : decide ((i : Int) < (l.length : Int)) = true := decide_eq_true (by omega)
  by_cases h80 : (i : Int) < 80
  case neg =>
    have hd2 := decide_eq_false h80
    repeat' (first | (simp (disch := omega) only [push_cast, ↓reduceIte, zA, zG, zB, zH, zI, zC, zJ, zK, zL, zD, zE, zF, zM, zN, zO, zP, zQ, reduceCtorEq, not_true_eq_false, not_false_eq_true, hd, hd2]) | (first | refine vIfE_of ?_ ?_ | refine vIfD_of ?_ ?_ | refine vIfQ_of ?_ ?_ | refine vIfV_of ?_ ?_) <;> intro _ | refine And.intro (by omega) ?_ | refine drawn_q ?_ | fail)
    refine (alive_c w2).mono ?_
    rintro _ w3 ⟨rfl, l3⟩
    repeat' (first | (simp (disch := omega) only [push_cast, ↓reduceIte, zA, zG, zB, zH, zI, zC, zJ, zK, zL, zD, zE, zF, zM, zN, zO, zP, zQ, reduceCtorEq, not_true_eq_false, not_false_eq_true]) | (first | refine vIfE_of ?_ ?_ | refine vIfD_of ?_ ?_ | refine vIfQ_of ?_ ?_ | refine vIfV_of ?_ ?_) <;> intro _ | refine And.intro (by omega) ?_ | refine drawn_q ?_ | fail)
    first | exact ⟨rfl, (S2.later.trans l3)⟩ | exact (S2.later.trans l3)
  have hd2 := decide_eq_true h80
  obtain ⟨a, rfl, fa⟩ := RecS.at acC_len (hs.later S2.later) hlt
  have hxi := (hx _ (List.getElem_mem hlt))
  generalize l[i] = x at *
  repeat' (first | (simp (disch := omega) only [push_cast, ↓reduceIte, zA, zG, zB, zH, zI, zC, zJ, zK, zL, zD, zE, zF, zM, zN, zO, zP, zQ, reduceCtorEq, not_true_eq_false, not_false_eq_true, hd, hd2, fa]) | (first | refine vIfE_of ?_ ?_ | refine vIfD_of ?_ ?_ | refine vIfQ_of ?_ ?_ | refine vIfV_of ?_ ?_) <;> intro _ | refine And.intro (by omega) ?_ | refine drawn_q ?_ | fail)
  refine vStore_act x w2 (hxi.later S2.later) ?_
  obtain ⟨l3, s3, B3⟩ := actBox w2 x
  have hv2 := S2.v.lt
  have hm2 := dv_lt S2.m
  generalize w2.alloc (.cells (acC x).toArray 37) = w3 at *
  generalize hka : w2.heap.size = ka at *
  have A3 := actAt B3
  have S3 := S2.next l3
  repeat' (first | (simp (disch := omega) only [push_cast, ↓reduceIte, zA, zG, zB, zH, zI, zC, zJ, zK, zL, zD, zE, zF, zM, zN, zO, zP, zQ, reduceCtorEq, not_true_eq_false, not_false_eq_true, A3.2.2.2.2.2]) | (first | refine vIfE_of ?_ ?_ | refine vIfD_of ?_ ?_ | refine vIfQ_of ?_ ?_ | refine vIfV_of ?_ ?_) <;> intro _ | refine And.intro (by omega) ?_ | refine drawn_q ?_ | fail)
  refine (fits_c x w3 (hxi.later S3.later)).mono ?_
  rintro _ w4 ⟨rfl, l4⟩
  have B4 := B3.chg (Chg.of_later (ks := []) l4) (by simp)
  have S4 := S3.next l4
  cases hf : fitB x with
  | false =>
    repeat' (first | (simp (disch := omega) only [push_cast, ↓reduceIte, zA, zG, zB, zH, zI, zC, zJ, zK, zL, zD, zE, zF, zM, zN, zO, zP, zQ, reduceCtorEq, not_true_eq_false, not_false_eq_true, hf]) | (first | refine vIfE_of ?_ ?_ | refine vIfD_of ?_ ?_ | refine vIfQ_of ?_ ?_ | refine vIfV_of ?_ ?_) <;> intro _ | refine And.intro (by omega) ?_ | refine drawn_q ?_ | fail)
    exact ⟨rfl, ⟨i + 1, bk, r, bm, s⟩, by simp (disch := omega) only [push_cast, ↓reduceIte, zA, zG, zB, zH, zI, zC, zJ, zK, zL, zD, zE, zF, zM, zN, zO, zP, zQ, reduceCtorEq, not_true_eq_false, not_false_eq_true], ⟨by dsimp only; omega, S4⟩, by dsimp only; omega⟩
  | true =>
  have hbj := inB_of (w1 := w) hxi.sl S2.hbk
  have hbj2 := inB_of (w1 := w) hxi.sl S2.hbm
  have G6 := aDo_good S4.good x hxi.n.2
  clear A3 S2 S3 B3 l3 l4
  have A4 := (actAt B4).2.2.2.2.2
  repeat' (first | (simp (disch := omega) only [push_cast, ↓reduceIte, zA, zG, zB, zH, zI, zC, zJ, zK, zL, zD, zE, zF, zM, zN, zO, zP, zQ, reduceCtorEq, not_true_eq_false, not_false_eq_true]) | (first | refine vIfE_of ?_ ?_ | refine vIfD_of ?_ ?_ | refine vIfQ_of ?_ ?_ | refine vIfV_of ?_ ?_) <;> intro _ | refine And.intro (by omega) ?_ | refine drawn_q ?_ | fail)
  refine drawnT_m ?_
  repeat' (first | (simp (disch := omega) only [push_cast, ↓reduceIte, zA, zG, zB, zH, zI, zC, zJ, zK, zL, zD, zE, zF, zM, zN, zO, zP, zQ, reduceCtorEq, not_true_eq_false, not_false_eq_true, A4]) | (first | refine vIfE_of ?_ ?_ | refine vIfD_of ?_ ?_ | refine vIfQ_of ?_ ?_ | refine vIfV_of ?_ ?_) <;> intro _ | refine And.intro (by omega) ?_ | fail)
  refine ⟨rfl, fun w5 l5 => ?_⟩
  intro om hom
  cases hom
  have S5 := S4.next l5
  have B5 := B4.chg (Chg.of_later (ks := []) l5) (by simp)
  repeat' (first | (simp (disch := omega) only [push_cast, ↓reduceIte, zA, zG, zB, zH, zI, zC, zJ, zK, zL, zD, zE, zF, zM, zN, zO, zP, zQ, reduceCtorEq, not_true_eq_false, not_false_eq_true]) | (first | refine vIfE_of ?_ ?_ | refine vIfD_of ?_ ?_ | refine vIfQ_of ?_ ?_ | refine vIfV_of ?_ ?_) <;> intro _ | refine And.intro (by omega) ?_ | refine drawn_q ?_ | fail)
  refine (do_c x bk r s w5 S5.v S5.good (hxi.later S5.later) hf hbj).mono ?_
  rintro _ w6 ⟨rfl, V6, c6⟩
  have hne := vd_ne S5.v S5.m
  have D6 := S5.m.other S5.v c6 hne
  have B6 := B5.chg c6 (by simp; omega)
  have A6 := (actAt B6).2.2.2.2.2
  have l06 := chg_later S5.later c6 S5.hbk S5.hr
  refine ⟨?_, ?_⟩
  · repeat' (first | (simp (disch := omega) only [push_cast, ↓reduceIte, zA, zG, zB, zH, zI, zC, zJ, zK, zL, zD, zE, zF, zM, zN, zO, zP, zQ, reduceCtorEq, not_true_eq_false, not_false_eq_true, A6, put]) | (first | refine vIfE_of ?_ ?_ | refine vIfD_of ?_ ?_ | refine vIfQ_of ?_ ?_ | refine vIfV_of ?_ ?_) <;> intro _ | refine And.intro (by omega) ?_ | refine drawn_q ?_ | fail)
  repeat' (first | (simp (disch := omega) only [push_cast, ↓reduceIte, zA, zG, zB, zH, zI, zC, zJ, zK, zL, zD, zE, zF, zM, zN, zO, zP, zQ, reduceCtorEq, not_true_eq_false, not_false_eq_true, put]) | (first | refine vIfE_of ?_ ?_ | refine vIfD_of ?_ ?_ | refine vIfQ_of ?_ ?_ | refine vIfV_of ?_ ?_) <;> intro _ | refine And.intro (by omega) ?_ | refine drawn_q ?_ | fail)
  refine (doRef_d x bm s w6 D6 S5.good (hxi.later l06) hf hbj2).mono ?_
  rintro _ w7 ⟨rfl, D7, c7⟩
  have V7 := V6.otherD D6 c7 (Ne.symm hne)
  have B7 := B6.chg c7 (by simp; omega)
  have l07 := chg_later1 l06 c7 S5.hbm
  have e1 : decide ((aDo x s).1 = (aDo x s).1) = true := decide_eq_true rfl
  have S7 : PS w w7 bk r bm (aDo x s).2 := ⟨l07, S5.hbk, S5.hr, S5.hbm, V7, D7, G6⟩
  generalize aDo x s = fs at *
  obtain ⟨f, s'⟩ := fs
  dsimp only at S7 e1 ⊢
  obtain ⟨a0, a1, a2, a3, a4, a5⟩ := actAt B7
  repeat' (first | (simp (disch := omega) only [push_cast, ↓reduceIte, zA, zG, zB, zH, zI, zC, zJ, zK, zL, zD, zE, zF, zM, zN, zO, zP, zQ, reduceCtorEq, not_true_eq_false, not_false_eq_true, e1]) | (first | refine vIfE_of ?_ ?_ | refine vIfD_of ?_ ?_ | refine vIfQ_of ?_ ?_ | refine vIfV_of ?_ ?_) <;> intro _ | refine And.intro (by omega) ?_ | refine drawn_q ?_ | fail)
  by_cases k6 : x.kind = 6
  · have h6 := decide_eq_true k6
    have h7 : decide (x.kind = 7) = false := decide_eq_false (by omega)
    repeat' (first | (simp (disch := omega) only [push_cast, ↓reduceIte, zA, zG, zB, zH, zI, zC, zJ, zK, zL, zD, zE, zF, zM, zN, zO, zP, zQ, reduceCtorEq, not_true_eq_false, not_false_eq_true, a0, a1, h6, addr_add_eq, Nat.zero_add]) | (first | refine vIfE_of ?_ ?_ | refine vIfD_of ?_ ?_ | refine vIfQ_of ?_ ?_ | refine vIfV_of ?_ ?_) <;> intro _ | refine And.intro (by omega) ?_ | refine drawn_q ?_ | fail)
    refine (crash_s bk r s' x.n w7 S7.v S7.good hxi.n).mono ?_
    rintro _ w8 ⟨⟨b2, r2, rfl, hb2, hr2, V8⟩, l8⟩
    have B8 := B7.chg (Chg.of_later (ks := []) l8) (by simp)
    obtain ⟨a0, a1, a2, a3, a4, a5⟩ := actAt B8
    repeat' (first | (simp (disch := omega) only [push_cast, ↓reduceIte, zA, zG, zB, zH, zI, zC, zJ, zK, zL, zD, zE, zF, zM, zN, zO, zP, zQ, reduceCtorEq, not_true_eq_false, not_false_eq_true, a0, a1, h6, addr_add_eq, Nat.zero_add]) | (first | refine vIfE_of ?_ ?_ | refine vIfD_of ?_ ?_ | refine vIfQ_of ?_ ?_ | refine vIfV_of ?_ ?_) <;> intro _ | refine And.intro (by omega) ?_ | refine drawn_q ?_ | fail)
    refine (crash_d bm s' x.n w8 (S7.m.later l8) S7.good hxi.n).mono ?_
    rintro _ w9 ⟨⟨m2, rfl, hm2, D9⟩, l9⟩
    have B9 := B8.chg (Chg.of_later (ks := []) l9) (by simp)
    obtain ⟨a0, a1, a2, a3, a4, a5⟩ := actAt B9
    have S9 : PS w w9 b2 r2 m2 (aCrash x.n s') := ⟨S7.later.trans (l8.trans l9), Nat.le_trans S7.later.size hb2, Nat.le_trans S7.later.size hr2, Nat.le_trans (S7.later.trans l8).size hm2, V8.later l9, D9, aCrash_good S7.good x.n⟩
    repeat' (first | (simp (disch := omega) only [push_cast, ↓reduceIte, zA, zG, zB, zH, zI, zC, zJ, zK, zL, zD, zE, zF, zM, zN, zO, zP, zQ, reduceCtorEq, not_true_eq_false, not_false_eq_true, a0, h7, addr_add_eq, Nat.zero_add]) | (first | refine vIfE_of ?_ ?_ | refine vIfD_of ?_ ?_ | refine vIfQ_of ?_ ?_ | refine vIfV_of ?_ ?_) <;> intro _ | refine And.intro (by omega) ?_ | refine drawn_q ?_ | fail)
    refine (same_c b2 r2 m2 (aCrash x.n s') w9 S9.v S9.m S9.good).mono ?_
    rintro _ w10 ⟨rfl, l10⟩
    have SB := S9.next l10
    have BB := B9.chg (Chg.of_later (ks := []) l10) (by simp)
    obtain ⟨a0, a1, a2, a3, a4, a5⟩ := actAt BB
    repeat' (first | (simp (disch := omega) only [push_cast, ↓reduceIte, zA, zG, zB, zH, zI, zC, zJ, zK, zL, zD, zE, zF, zM, zN, zO, zP, zQ, reduceCtorEq, not_true_eq_false, not_false_eq_true, a2, addr_add_eq, Nat.zero_add]) | (first | refine vIfE_of ?_ ?_ | refine vIfD_of ?_ ?_ | refine vIfQ_of ?_ ?_ | refine vIfV_of ?_ ?_) <;> intro _ | refine And.intro (by omega) ?_ | refine drawn_q ?_ | fail)
    refine (read_s b2 r2 (aCrash x.n s') _ w10 SB.v SB.good).mono ?_
    rintro _ w11 ⟨⟨y, rfl, hy⟩, l11⟩
    have SC := SB.next l11
    have BC := BB.chg (Chg.of_later (ks := []) l11) (by simp)
    obtain ⟨a0, a1, a2, a3, a4, a5⟩ := actAt BC
    repeat' (first | (simp (disch := omega) only [push_cast, ↓reduceIte, zA, zG, zB, zH, zI, zC, zJ, zK, zL, zD, zE, zF, zM, zN, zO, zP, zQ, reduceCtorEq, not_true_eq_false, not_false_eq_true, a2, addr_add_eq, Nat.zero_add]) | (first | refine vIfE_of ?_ ?_ | refine vIfD_of ?_ ?_ | refine vIfQ_of ?_ ?_ | refine vIfV_of ?_ ?_) <;> intro _ | refine And.intro (by omega) ?_ | refine drawn_q ?_ | fail)
    refine (read_d m2 (aCrash x.n s') _ w11 SC.m SC.good).mono ?_
    rintro _ w12 ⟨⟨z, rfl⟩, l12⟩
    have SD := SC.next l12
    have e9 : decide ((lk x.a (aCrash x.n s').L).isSome = (lk x.a (aCrash x.n s').L).isSome) = true := decide_eq_true rfl
    repeat' (first | (simp (disch := omega) only [push_cast, ↓reduceIte, zA, zG, zB, zH, zI, zC, zJ, zK, zL, zD, zE, zF, zM, zN, zO, zP, zQ, reduceCtorEq, not_true_eq_false, not_false_eq_true, e9]) | (first | refine vIfE_of ?_ ?_ | refine vIfD_of ?_ ?_ | refine vIfQ_of ?_ ?_ | refine vIfV_of ?_ ?_) <;> intro _ | refine And.intro (by omega) ?_ | refine drawn_q ?_ | fail)
    exact ⟨rfl, ⟨i + 1, b2, r2, m2, aCrash x.n s'⟩, by simp (disch := omega) only [push_cast, ↓reduceIte, zA, zG, zB, zH, zI, zC, zJ, zK, zL, zD, zE, zF, zM, zN, zO, zP, zQ, reduceCtorEq, not_true_eq_false, not_false_eq_true], ⟨by dsimp only; omega, SD⟩, by dsimp only; omega⟩
  have h6 := decide_eq_false k6
  by_cases k7 : x.kind = 7
  · have h7 := decide_eq_true k7
    repeat' (first | (simp (disch := omega) only [push_cast, ↓reduceIte, zA, zG, zB, zH, zI, zC, zJ, zK, zL, zD, zE, zF, zM, zN, zO, zP, zQ, reduceCtorEq, not_true_eq_false, not_false_eq_true, a0, h6, addr_add_eq, Nat.zero_add]) | (first | refine vIfE_of ?_ ?_ | refine vIfD_of ?_ ?_ | refine vIfQ_of ?_ ?_ | refine vIfV_of ?_ ?_) <;> intro _ | refine And.intro (by omega) ?_ | refine drawn_q ?_ | fail)
    repeat' (first | (simp (disch := omega) only [push_cast, ↓reduceIte, zA, zG, zB, zH, zI, zC, zJ, zK, zL, zD, zE, zF, zM, zN, zO, zP, zQ, reduceCtorEq, not_true_eq_false, not_false_eq_true, a0, h7, addr_add_eq, Nat.zero_add]) | (first | refine vIfE_of ?_ ?_ | refine vIfD_of ?_ ?_ | refine vIfQ_of ?_ ?_ | refine vIfV_of ?_ ?_) <;> intro _ | refine And.intro (by omega) ?_ | refine drawn_q ?_ | fail)
    refine (copy_s bk r s' w7 S7.v).mono ?_
    rintro _ w8 ⟨⟨b2, r2, rfl, hb2, hr2, V8⟩, l8⟩
    have B8 := B7.chg (Chg.of_later (ks := []) l8) (by simp)
    obtain ⟨a0, a1, a2, a3, a4, a5⟩ := actAt B8
    repeat' (first | (simp (disch := omega) only [push_cast, ↓reduceIte, zA, zG, zB, zH, zI, zC, zJ, zK, zL, zD, zE, zF, zM, zN, zO, zP, zQ, reduceCtorEq, not_true_eq_false, not_false_eq_true, a0, h7, addr_add_eq, Nat.zero_add]) | (first | refine vIfE_of ?_ ?_ | refine vIfD_of ?_ ?_ | refine vIfQ_of ?_ ?_ | refine vIfV_of ?_ ?_) <;> intro _ | refine And.intro (by omega) ?_ | refine drawn_q ?_ | fail)
    refine (copy_d bm s' w8 (S7.m.later l8) S7.good).mono ?_
    rintro _ w9 ⟨⟨m2, rfl, hm2, D9⟩, l9⟩
    have B9 := B8.chg (Chg.of_later (ks := []) l9) (by simp)
    obtain ⟨a0, a1, a2, a3, a4, a5⟩ := actAt B9
    have S9 : PS w w9 b2 r2 m2 s' := ⟨S7.later.trans (l8.trans l9), Nat.le_trans S7.later.size hb2, Nat.le_trans S7.later.size hr2, Nat.le_trans (S7.later.trans l8).size hm2, V8.later l9, D9, S7.good⟩
    repeat' (first | (simp (disch := omega) only [push_cast, ↓reduceIte, zA, zG, zB, zH, zI, zC, zJ, zK, zL, zD, zE, zF, zM, zN, zO, zP, zQ, reduceCtorEq, not_true_eq_false, not_false_eq_true]) | (first | refine vIfE_of ?_ ?_ | refine vIfD_of ?_ ?_ | refine vIfQ_of ?_ ?_ | refine vIfV_of ?_ ?_) <;> intro _ | refine And.intro (by omega) ?_ | refine drawn_q ?_ | fail)
    refine (same_c b2 r2 m2 s' w9 S9.v S9.m S9.good).mono ?_
    rintro _ w10 ⟨rfl, l10⟩
    have SB := S9.next l10
    have BB := B9.chg (Chg.of_later (ks := []) l10) (by simp)
    obtain ⟨a0, a1, a2, a3, a4, a5⟩ := actAt BB
    repeat' (first | (simp (disch := omega) only [push_cast, ↓reduceIte, zA, zG, zB, zH, zI, zC, zJ, zK, zL, zD, zE, zF, zM, zN, zO, zP, zQ, reduceCtorEq, not_true_eq_false, not_false_eq_true, a2, addr_add_eq, Nat.zero_add]) | (first | refine vIfE_of ?_ ?_ | refine vIfD_of ?_ ?_ | refine vIfQ_of ?_ ?_ | refine vIfV_of ?_ ?_) <;> intro _ | refine And.intro (by omega) ?_ | refine drawn_q ?_ | fail)
    refine (read_s b2 r2 s' _ w10 SB.v SB.good).mono ?_
    rintro _ w11 ⟨⟨y, rfl, hy⟩, l11⟩
    have SC := SB.next l11
    have BC := BB.chg (Chg.of_later (ks := []) l11) (by simp)
    obtain ⟨a0, a1, a2, a3, a4, a5⟩ := actAt BC
    repeat' (first | (simp (disch := omega) only [push_cast, ↓reduceIte, zA, zG, zB, zH, zI, zC, zJ, zK, zL, zD, zE, zF, zM, zN, zO, zP, zQ, reduceCtorEq, not_true_eq_false, not_false_eq_true, a2, addr_add_eq, Nat.zero_add]) | (first | refine vIfE_of ?_ ?_ | refine vIfD_of ?_ ?_ | refine vIfQ_of ?_ ?_ | refine vIfV_of ?_ ?_) <;> intro _ | refine And.intro (by omega) ?_ | refine drawn_q ?_ | fail)
    refine (read_d m2 s' _ w11 SC.m SC.good).mono ?_
    rintro _ w12 ⟨⟨z, rfl⟩, l12⟩
    have SD := SC.next l12
    have e9 : decide ((lk x.a s'.L).isSome = (lk x.a s'.L).isSome) = true := decide_eq_true rfl
    repeat' (first | (simp (disch := omega) only [push_cast, ↓reduceIte, zA, zG, zB, zH, zI, zC, zJ, zK, zL, zD, zE, zF, zM, zN, zO, zP, zQ, reduceCtorEq, not_true_eq_false, not_false_eq_true, e9]) | (first | refine vIfE_of ?_ ?_ | refine vIfD_of ?_ ?_ | refine vIfQ_of ?_ ?_ | refine vIfV_of ?_ ?_) <;> intro _ | refine And.intro (by omega) ?_ | refine drawn_q ?_ | fail)
    exact ⟨rfl, ⟨i + 1, b2, r2, m2, s'⟩, by simp (disch := omega) only [push_cast, ↓reduceIte, zA, zG, zB, zH, zI, zC, zJ, zK, zL, zD, zE, zF, zM, zN, zO, zP, zQ, reduceCtorEq, not_true_eq_false, not_false_eq_true], ⟨by dsimp only; omega, SD⟩, by dsimp only; omega⟩
  have h7 := decide_eq_false k7
  repeat' (first | (simp (disch := omega) only [push_cast, ↓reduceIte, zA, zG, zB, zH, zI, zC, zJ, zK, zL, zD, zE, zF, zM, zN, zO, zP, zQ, reduceCtorEq, not_true_eq_false, not_false_eq_true, a0, h6, h7, addr_add_eq, Nat.zero_add]) | (first | refine vIfE_of ?_ ?_ | refine vIfD_of ?_ ?_ | refine vIfQ_of ?_ ?_ | refine vIfV_of ?_ ?_) <;> intro _ | refine And.intro (by omega) ?_ | refine drawn_q ?_ | fail)
  refine (same_c bk r bm s' w7 S7.v S7.m S7.good).mono ?_
  rintro _ w10 ⟨rfl, l10⟩
  have SB := S7.next l10
  have BB := B7.chg (Chg.of_later (ks := []) l10) (by simp)
  obtain ⟨a0, a1, a2, a3, a4, a5⟩ := actAt BB
  repeat' (first | (simp (disch := omega) only [push_cast, ↓reduceIte, zA, zG, zB, zH, zI, zC, zJ, zK, zL, zD, zE, zF, zM, zN, zO, zP, zQ, reduceCtorEq, not_true_eq_false, not_false_eq_true, a2, addr_add_eq, Nat.zero_add]) | (first | refine vIfE_of ?_ ?_ | refine vIfD_of ?_ ?_ | refine vIfQ_of ?_ ?_ | refine vIfV_of ?_ ?_) <;> intro _ | refine And.intro (by omega) ?_ | refine drawn_q ?_ | fail)
  refine (read_s bk r s' _ w10 SB.v SB.good).mono ?_
  rintro _ w11 ⟨⟨y, rfl, hy⟩, l11⟩
  have SC := SB.next l11
  have BC := BB.chg (Chg.of_later (ks := []) l11) (by simp)
  obtain ⟨a0, a1, a2, a3, a4, a5⟩ := actAt BC
  repeat' (first | (simp (disch := omega) only [push_cast, ↓reduceIte, zA, zG, zB, zH, zI, zC, zJ, zK, zL, zD, zE, zF, zM, zN, zO, zP, zQ, reduceCtorEq, not_true_eq_false, not_false_eq_true, a2, addr_add_eq, Nat.zero_add]) | (first | refine vIfE_of ?_ ?_ | refine vIfD_of ?_ ?_ | refine vIfQ_of ?_ ?_ | refine vIfV_of ?_ ?_) <;> intro _ | refine And.intro (by omega) ?_ | refine drawn_q ?_ | fail)
  refine (read_d bm s' _ w11 SC.m SC.good).mono ?_
  rintro _ w12 ⟨⟨z, rfl⟩, l12⟩
  have SD := SC.next l12
  have e9 : decide ((lk x.a s'.L).isSome = (lk x.a s'.L).isSome) = true := decide_eq_true rfl
  repeat' (first | (simp (disch := omega) only [push_cast, ↓reduceIte, zA, zG, zB, zH, zI, zC, zJ, zK, zL, zD, zE, zF, zM, zN, zO, zP, zQ, reduceCtorEq, not_true_eq_false, not_false_eq_true, e9]) | (first | refine vIfE_of ?_ ?_ | refine vIfD_of ?_ ?_ | refine vIfQ_of ?_ ?_ | refine vIfV_of ?_ ?_) <;> intro _ | refine And.intro (by omega) ?_ | refine drawn_q ?_ | fail)
  exact ⟨rfl, ⟨i + 1, bk, r, bm, s'⟩, by simp (disch := omega) only [push_cast, ↓reduceIte, zA, zG, zB, zH, zI, zC, zJ, zK, zL, zD, zE, zF, zM, zN, zO, zP, zQ, reduceCtorEq, not_true_eq_false, not_false_eq_true], ⟨by dsimp only; omega, SD⟩, by dsimp only; omega⟩
theorem own : ownKnob Try.prog.godebug = none := by kernel_rfl
theorem lifted (os : Os) (started : os.Started) (H : Type) (enc : TypeId × Value → H) :
    ReturnsInHanded {} Try.checked os 5 .any (Rows.vaultPlaysSpec.pre6 enc Try.prog Try.f5 Rows.vaultPlaysRow.domain false) (Rows.vaultPlaysSpec.post enc Try.prog Try.f5 false true false false) := by
  refine lifted_later (C := Try.checked) own started (by kernel_rfl) Try.func5 hb5
    (ChangeSpec.witness6 (enc := enc) (C := Try.checked) false ⟨#[], #[.int .i64 0, .slice none 0 0], []⟩ 5 (by kernel_rfl) (by kernel_rfl) (by kernel_rfl) (by kernel_rfl))
    (by kernel_rfl) (list_all (by kernel_rfl)) (by kernel_rfl) Try.underlying4 rfl ?_ ?_
  · intro ds h
    have h : ds.length = 2 := h
    match ds, h with
    | [_, _], _ => rfl
  · intro W base args ds p hval0 hA0
    have hval : ∀ (j : Nat) t v, Try.f5.params[j]? = some t → args[j]? = some v → Value.okWide Try.prog W .any base t v := hval0
    have hA : DataW.TrodAll enc Try.prog W 0 (fun _ => true) true Try.f5.params.toList args.toList ds p := hA0
    rw [Try.params5] at hA hval
    obtain ⟨v0, vs0, d0, ds0, p0, q0, hargs, rfl, rfl, h0, r0⟩ := trodAll_cons hA
    obtain ⟨v1, vs1, d1, ds1, p1, q1, rfl, rfl, rfl, h1, r1⟩ := trodAll_cons r0
    obtain ⟨rfl, rfl, rfl⟩ := trodAll_nil r1
    obtain rfl : args = #[v0, v1] := by cases args; simp_all
    obtain ⟨a0, rfl, rfl, rfl, w0⟩ := open_int Try.underlying3 (hval 0 3 v0 rfl rfl) h0
    obtain ⟨a1, w1⟩ := open_acts (hval 1 35 v1 rfl rfl) h1
    exact law_c a0 v1 a1 W (i64_of_wf w0) w1.1 w1.2
theorem over : Rows.vaultPlaysRow.holds Try.pinned (OpenSpec.ofChange Rows.vaultPlaysSpec) :=
  OpenClaim.holds_of_wide 5 Try.f5 rfl rfl rfl rfl rfl rfl rfl ⟨rfl, rfl, rfl, rfl, rfl⟩ rfl rfl rfl rfl rfl (by kernel_rfl) Try.func5 (by kernel_rfl)
    (of_decide_eq_true (by kernel_rfl)) (by unfold Func.isWrapper; first | (rw [if_pos (by decide +kernel)]; kernel_rfl) | (rw [if_neg (by decide +kernel)]; exact ⟨rfl, rfl⟩))
    (fun os started H enc _ => lifted os started H enc)
/-- The statement. -/
theorem proved : Rows.VaultPlaysSaid :=
  over
end Go.Proofs.Ytmfcnooleejgmaa.vaultPlays
