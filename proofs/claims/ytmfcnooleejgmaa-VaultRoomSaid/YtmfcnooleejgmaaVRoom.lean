/- VaultRoom holds for every input: behind any acts the files have no more bytes together than there is room, and what is left is the rest; an append that does not fit changes nothing. -/
import Derived.Test.YtmfcnooleejgmaaRows
import Derived.Test.YtmfcnooleejgmaaPartG
set_option linter.all false
open Nat renaming reduceEqDiff → zA, reducePow → zB, reduceMul → zC, reduceAdd → zD, reduceSub → zE, reduceLeDiff → zF
open Int renaming reduceToNat → zG, reducePow → zH, reduceNeg → zI, reduceMul → zJ, reduceAdd → zK, reduceSub → zL, reduceLT → zM, reduceLE → zN, reduceEq → zO, reduceMod → zP, reduceDiv → zQ
set_option linter.unusedSimpArgs false
namespace Go.Proofs.Ytmfcnooleejgmaa.vaultRoom
open Go.Vc Go.Vlt Go.Key Go.ChangeShapes Go.WideShapes Go.ChangeAt Go.RowKit
set_option maxRecDepth 100000
set_option maxHeartbeats 1000000 in
theorem law_c (room : Int) (sv : Value) (l : List ActD) (w : World) (hro : -9223372036854775808 ≤ room ∧ room ≤ 9223372036854775807) (hs : RecS acC 5 w sv l) (hx : ∀ x ∈ l, x.Ok w) : FnC Try.prog 4 #[.int .i64 room, sv] w fun v w' => v = .bool true ∧ Later w w' := by
  obtain ⟨so, sc, rfl, hs1, hs2⟩ := RecS.slice hs
  refine enter4 _ _ ?_
  unfold B4
  repeat' (first | (simp (disch := omega) only [push_cast, ↓reduceIte, zA, zG, zB, zH, zI, zC, zJ, zK, zL, zD, zE, zF, zM, zN, zO, zP, zQ, reduceCtorEq, not_true_eq_false, not_false_eq_true]) | (first | refine vIfE_of ?_ ?_ | refine vIfD_of ?_ ?_ | refine vIfQ_of ?_ ?_ | refine vIfV_of ?_ ?_) <;> intro _ | refine And.intro (by omega) ?_ | refine drawn_q ?_ | fail)
  refine (new_s room w hro).mono ?_
  rintro _ w1 ⟨⟨rfl, hno⟩ | ⟨hr0, hr1, bk, r, hbk, hr, rfl, V1⟩, l1⟩
  · repeat' (first | (simp (disch := omega) only [push_cast, ↓reduceIte, zA, zG, zB, zH, zI, zC, zJ, zK, zL, zD, zE, zF, zM, zN, zO, zP, zQ, reduceCtorEq, not_true_eq_false, not_false_eq_true]) | (first | refine vIfE_of ?_ ?_ | refine vIfD_of ?_ ?_ | refine vIfQ_of ?_ ?_ | refine vIfV_of ?_ ?_) <;> intro _ | refine And.intro (by omega) ?_ | refine drawn_q ?_ | fail)
    refine (alive_c w1).mono ?_
    rintro _ w2 ⟨rfl, l2⟩
    by_cases h0 : room < 0
    · have hd := decide_eq_true h0
      repeat' (first | (simp (disch := omega) only [push_cast, ↓reduceIte, zA, zG, zB, zH, zI, zC, zJ, zK, zL, zD, zE, zF, zM, zN, zO, zP, zQ, reduceCtorEq, not_true_eq_false, not_false_eq_true, hd]) | (first | refine vIfE_of ?_ ?_ | refine vIfD_of ?_ ?_ | refine vIfQ_of ?_ ?_ | refine vIfV_of ?_ ?_) <;> intro _ | refine And.intro (by omega) ?_ | refine drawn_q ?_ | fail)
      first | exact ⟨rfl, (l1.trans l2)⟩ | exact (l1.trans l2)
    · have hd := decide_eq_false h0
      have hd2 : decide (16777216 < room) = true := decide_eq_true (by omega)
      repeat' (first | (simp (disch := omega) only [push_cast, ↓reduceIte, zA, zG, zB, zH, zI, zC, zJ, zK, zL, zD, zE, zF, zM, zN, zO, zP, zQ, reduceCtorEq, not_true_eq_false, not_false_eq_true, hd, hd2]) | (first | refine vIfE_of ?_ ?_ | refine vIfD_of ?_ ?_ | refine vIfQ_of ?_ ?_ | refine vIfV_of ?_ ?_) <;> intro _ | refine And.intro (by omega) ?_ | refine drawn_q ?_ | fail)
      first | exact ⟨rfl, (l1.trans l2)⟩ | exact (l1.trans l2)
  have G1 : Good (s0 room) := s0_good ⟨hr0, hr1⟩
  repeat' (first | (simp (disch := omega) only [push_cast, ↓reduceIte, zA, zG, zB, zH, zI, zC, zJ, zK, zL, zD, zE, zF, zM, zN, zO, zP, zQ, reduceCtorEq, not_true_eq_false, not_false_eq_true]) | (first | refine vIfE_of ?_ ?_ | refine vIfD_of ?_ ?_ | refine vIfQ_of ?_ ?_ | refine vIfV_of ?_ ?_) <;> intro _ | refine And.intro (by omega) ?_ | refine drawn_q ?_ | fail)
  refine vc_loop W4_0 (fun i : Nat => [(4, .bool false), (7, .int .i64 (i : Int))]) (fun i w' => i ≤ l.length ∧ Later w w' ∧ ∃ s, VS w' bk r s ∧ Good s ∧ s.room = room) (fun i => l.length - i) 0 (by decide) ?_ ?_ ?_
  · simp (disch := omega) only [push_cast, ↓reduceIte, zA, zG, zB, zH, zI, zC, zJ, zK, zL, zD, zE, zF, zM, zN, zO, zP, zQ, reduceCtorEq, not_true_eq_false, not_false_eq_true]
  · exact ⟨Nat.zero_le _, l1, s0 room, V1, G1, rfl⟩
  rintro i uu w2 ⟨hi, l2, s, V2, G2, hsr⟩
  by_cases hlt : i < l.length
  case neg =>
    have hd : decide ((i : Int) < (l.length : Int)) = false := decide_eq_false (by omega)
    repeat' (first | (simp (disch := omega) only [push_cast, ↓reduceIte, zA, zG, zB, zH, zI, zC, zJ, zK, zL, zD, zE, zF, zM, zN, zO, zP, zQ, reduceCtorEq, not_true_eq_false, not_false_eq_true, hd]) | (first | refine vIfE_of ?_ ?_ | refine vIfD_of ?_ ?_ | refine vIfQ_of ?_ ?_ | refine vIfV_of ?_ ?_) <;> intro _ | refine And.intro (by omega) ?_ | refine drawn_q ?_ | fail)
    refine (alive_c w2).mono ?_
    rintro _ w3 ⟨rfl, l3⟩
    repeat' (first | (simp (disch := omega) only [push_cast, ↓reduceIte, zA, zG, zB, zH, zI, zC, zJ, zK, zL, zD, zE, zF, zM, zN, zO, zP, zQ, reduceCtorEq, not_true_eq_false, not_false_eq_true]) | (first | refine vIfE_of ?_ ?_ | refine vIfD_of ?_ ?_ | refine vIfQ_of ?_ ?_ | refine vIfV_of ?_ ?_) <;> intro _ | refine And.intro (by omega) ?_ | refine drawn_q ?_ | fail)
    first | exact ⟨rfl, (l2.trans l3)⟩ | exact (l2.trans l3)
  have hd : decide ((i : Int) < (l.length : Int)) = true := decide_eq_true (by omega)
  by_cases h80 : (i : Int) < 80
  case neg =>
    have hd2 := decide_eq_false h80
    repeat' (first | (simp (disch := omega) only [push_cast, ↓reduceIte, zA, zG, zB, zH, zI, zC, zJ, zK, zL, zD, zE, zF, zM, zN, zO, zP, zQ, reduceCtorEq, not_true_eq_false, not_false_eq_true, hd, hd2]) | (first | refine vIfE_of ?_ ?_ | refine vIfD_of ?_ ?_ | refine vIfQ_of ?_ ?_ | refine vIfV_of ?_ ?_) <;> intro _ | refine And.intro (by omega) ?_ | refine drawn_q ?_ | fail)
    refine (alive_c w2).mono ?_
    rintro _ w3 ⟨rfl, l3⟩
    repeat' (first | (simp (disch := omega) only [push_cast, ↓reduceIte, zA, zG, zB, zH, zI, zC, zJ, zK, zL, zD, zE, zF, zM, zN, zO, zP, zQ, reduceCtorEq, not_true_eq_false, not_false_eq_true]) | (first | refine vIfE_of ?_ ?_ | refine vIfD_of ?_ ?_ | refine vIfQ_of ?_ ?_ | refine vIfV_of ?_ ?_) <;> intro _ | refine And.intro (by omega) ?_ | refine drawn_q ?_ | fail)
    first | exact ⟨rfl, (l2.trans l3)⟩ | exact (l2.trans l3)
  have hd2 := decide_eq_true h80
  obtain ⟨a, rfl, fa⟩ := RecS.at acC_len (hs.later l2) hlt
  have hxi := (hx _ (List.getElem_mem hlt))
  generalize l[i] = x at *
  repeat' (first | (simp (disch := omega) only [push_cast, ↓reduceIte, zA, zG, zB, zH, zI, zC, zJ, zK, zL, zD, zE, zF, zM, zN, zO, zP, zQ, reduceCtorEq, not_true_eq_false, not_false_eq_true, hd, hd2, fa]) | (first | refine vIfE_of ?_ ?_ | refine vIfD_of ?_ ?_ | refine vIfQ_of ?_ ?_ | refine vIfV_of ?_ ?_) <;> intro _ | refine And.intro (by omega) ?_ | refine drawn_q ?_ | fail)
  refine vStore_act x w2 (hxi.later l2) ?_
  obtain ⟨l3, s3, B3⟩ := actBox w2 x
  have hbk2 := V2.lt
  generalize w2.alloc (.cells (acC x).toArray 37) = w3 at *
  generalize hka : w2.heap.size = ka at *
  have A3 := actAt B3
  have V3 := V2.later l3
  have l03 := l2.trans l3
  repeat' (first | (simp (disch := omega) only [push_cast, ↓reduceIte, zA, zG, zB, zH, zI, zC, zJ, zK, zL, zD, zE, zF, zM, zN, zO, zP, zQ, reduceCtorEq, not_true_eq_false, not_false_eq_true, A3.2.2.2.2.2]) | (first | refine vIfE_of ?_ ?_ | refine vIfD_of ?_ ?_ | refine vIfQ_of ?_ ?_ | refine vIfV_of ?_ ?_) <;> intro _ | refine And.intro (by omega) ?_ | refine drawn_q ?_ | fail)
  refine (fits_c x w3 (hxi.later l03)).mono ?_
  rintro _ w4 ⟨rfl, l4⟩
  have B4 := B3.chg (Chg.of_later (ks := []) l4) (by simp)
  have l04 := l03.trans l4
  have V4 := V3.later l4
  obtain ⟨a0, a1, a2, a3, a4, a5⟩ := actAt B4
  cases hf : fitB x with
  | false =>
    repeat' (first | (simp (disch := omega) only [push_cast, ↓reduceIte, zA, zG, zB, zH, zI, zC, zJ, zK, zL, zD, zE, zF, zM, zN, zO, zP, zQ, reduceCtorEq, not_true_eq_false, not_false_eq_true, hf]) | (first | refine vIfE_of ?_ ?_ | refine vIfD_of ?_ ?_ | refine vIfQ_of ?_ ?_ | refine vIfV_of ?_ ?_) <;> intro _ | refine And.intro (by omega) ?_ | refine drawn_q ?_ | fail)
    exact ⟨rfl, i + 1, by simp (disch := omega) only [push_cast, ↓reduceIte, zA, zG, zB, zH, zI, zC, zJ, zK, zL, zD, zE, zF, zM, zN, zO, zP, zQ, reduceCtorEq, not_true_eq_false, not_false_eq_true], ⟨by omega, l04, s, V4, G2, hsr⟩, by dsimp only; omega⟩
  | true =>
  by_cases hk4 : 4 < x.kind
  · have hd4 := decide_eq_true hk4
    repeat' (first | (simp (disch := omega) only [push_cast, ↓reduceIte, zA, zG, zB, zH, zI, zC, zJ, zK, zL, zD, zE, zF, zM, zN, zO, zP, zQ, reduceCtorEq, not_true_eq_false, not_false_eq_true, a0, hd4, addr_add_eq, Nat.zero_add]) | (first | refine vIfE_of ?_ ?_ | refine vIfD_of ?_ ?_ | refine vIfQ_of ?_ ?_ | refine vIfV_of ?_ ?_) <;> intro _ | refine And.intro (by omega) ?_ | refine drawn_q ?_ | fail)
    exact ⟨rfl, i + 1, by simp (disch := omega) only [push_cast, ↓reduceIte, zA, zG, zB, zH, zI, zC, zJ, zK, zL, zD, zE, zF, zM, zN, zO, zP, zQ, reduceCtorEq, not_true_eq_false, not_false_eq_true], ⟨by omega, l04, s, V4, G2, hsr⟩, by dsimp only; omega⟩
  have hd4 := decide_eq_false hk4
  repeat' (first | (simp (disch := omega) only [push_cast, ↓reduceIte, zA, zG, zB, zH, zI, zC, zJ, zK, zL, zD, zE, zF, zM, zN, zO, zP, zQ, reduceCtorEq, not_true_eq_false, not_false_eq_true, a0, hd4, addr_add_eq, Nat.zero_add]) | (first | refine vIfE_of ?_ ?_ | refine vIfD_of ?_ ?_ | refine vIfQ_of ?_ ?_ | refine vIfV_of ?_ ?_) <;> intro _ | refine And.intro (by omega) ?_ | refine drawn_q ?_ | fail)
  refine (free_s bk r s w4 V4 G2).mono ?_
  rintro _ w5 ⟨rfl, l5⟩
  have B5 := B4.chg (Chg.of_later (ks := []) l5) (by simp)
  have l05 := l04.trans l5
  obtain ⟨a0, a1, a2, a3, a4, a5⟩ := actAt B5
  repeat' (first | (simp (disch := omega) only [push_cast, ↓reduceIte, zA, zG, zB, zH, zI, zC, zJ, zK, zL, zD, zE, zF, zM, zN, zO, zP, zQ, reduceCtorEq, not_true_eq_false, not_false_eq_true, a5]) | (first | refine vIfE_of ?_ ?_ | refine vIfD_of ?_ ?_ | refine vIfQ_of ?_ ?_ | refine vIfV_of ?_ ?_) <;> intro _ | refine And.intro (by omega) ?_ | refine drawn_q ?_ | fail)
  have hbj := inB_of (w1 := w) hxi.sl hbk
  refine (do_c x bk r s w5 (V4.later l5) G2 (hxi.later l05) hf hbj).mono ?_
  rintro _ w6 ⟨rfl, V6, c6⟩
  have G6 := aDo_good G2 x hxi.n.2
  obtain ⟨d1, d2, d3⟩ := aDo_facts x G2 (by omega)
  have hsr6 : (aDo x s).2.room = room := d1.trans hsr
  generalize aDo x s = fs at *
  obtain ⟨f, s'⟩ := fs
  dsimp only at V6 G6 d1 d2 d3 hsr6 ⊢
  have l06 := chg_later l05 c6 hbk hr
  have B6 := B5.chg c6 (by simp; omega)
  repeat' (first | (simp (disch := omega) only [push_cast, ↓reduceIte, zA, zG, zB, zH, zI, zC, zJ, zK, zL, zD, zE, zF, zM, zN, zO, zP, zQ, reduceCtorEq, not_true_eq_false, not_false_eq_true]) | (first | refine vIfE_of ?_ ?_ | refine vIfD_of ?_ ?_ | refine vIfQ_of ?_ ?_ | refine vIfV_of ?_ ?_) <;> intro _ | refine And.intro (by omega) ?_ | refine drawn_q ?_ | fail)
  refine (list_s bk r s' w6 V6 G6).mono ?_
  rintro lv w7 ⟨hO, l7⟩
  obtain ⟨lo, lc, rfl⟩ := OwnN.slice hO
  rw [List.length_map] at hO ⊢
  have V7 := V6.later l7
  have B7 := B6.chg (Chg.of_later (ks := []) l7) (by simp)
  have l07 := l06.trans l7
  repeat' (first | (simp (disch := omega) only [push_cast, ↓reduceIte, zA, zG, zB, zH, zI, zC, zJ, zK, zL, zD, zE, zF, zM, zN, zO, zP, zQ, reduceCtorEq, not_true_eq_false, not_false_eq_true]) | (first | refine vIfE_of ?_ ?_ | refine vIfD_of ?_ ?_ | refine vIfQ_of ?_ ?_ | refine vIfV_of ?_ ?_) <;> intro _ | refine And.intro (by omega) ?_ | refine drawn_q ?_ | fail)
  have hT := G6.tot
  have hTn := tl_nn s'.L
  have hln := G6.len
  refine vc_loop W4_1 (fun k : Nat => [(12, .int .i64 (tl (s'.L.take k))), (14, .int .i64 (k : Int))]) (fun k w' => k ≤ s'.L.length ∧ Later w7 w') (fun k => s'.L.length - k) 0 (by decide) ?_ ?_ ?_
  · simp (disch := omega) only [push_cast, ↓reduceIte, zA, zG, zB, zH, zI, zC, zJ, zK, zL, zD, zE, zF, zM, zN, zO, zP, zQ, reduceCtorEq, not_true_eq_false, not_false_eq_true, List.take_zero]
    rfl
  · exact ⟨Nat.zero_le _, Later.refl _⟩
  rintro k u2 w8 ⟨hk, l8⟩
  have ht1 := tl_take_le (L := s'.L) k
  have ht0 := tl_nn (s'.L.take k)
  by_cases hkl : k < s'.L.length
  · have hd5 : decide ((k : Int) < (s'.L.length : Int)) = true := decide_eq_true (by omega)
    have hS : Sl w8 (.slice lo s'.L.length lc) ((s'.L.map Fl.name).map Value.string) := (Sl.of_own (n := (s'.L.map Fl.name).length) hO).later l8
    cases lo with
    | none => have := (Sl.len hS).2.2.2 rfl; have h0 := this.1; simp at h0; rw [h0] at hkl; simp at hkl
    | some la =>
    have hc : w8.cell? (la.add k) = some (.string (s'.L[k]).name) := Sl.at hS (by simp [hkl])
    have htk := tl_take hkl
    have ht2 := tl_take_le (L := s'.L) (k + 1)
    have hob := oB_at G6.srd hkl
    repeat' (first | (simp (disch := omega) only [push_cast, ↓reduceIte, zA, zG, zB, zH, zI, zC, zJ, zK, zL, zD, zE, zF, zM, zN, zO, zP, zQ, reduceCtorEq, not_true_eq_false, not_false_eq_true, hd5, hc]) | (first | refine vIfE_of ?_ ?_ | refine vIfD_of ?_ ?_ | refine vIfQ_of ?_ ?_ | refine vIfV_of ?_ ?_) <;> intro _ | refine And.intro (by omega) ?_ | refine drawn_q ?_ | fail)
    refine (read_s bk r s' _ w8 (V7.later l8) G6).mono ?_
    rintro _ w9 ⟨⟨y, rfl, hy⟩, l9⟩
    obtain ⟨yo, yc, rfl⟩ := hy.slice
    rw [hob] at hy ⊢
    repeat' (first | (simp (disch := omega) only [push_cast, ↓reduceIte, zA, zG, zB, zH, zI, zC, zJ, zK, zL, zD, zE, zF, zM, zN, zO, zP, zQ, reduceCtorEq, not_true_eq_false, not_false_eq_true, ← htk]) | (first | refine vIfE_of ?_ ?_ | refine vIfD_of ?_ ?_ | refine vIfQ_of ?_ ?_ | refine vIfV_of ?_ ?_) <;> intro _ | refine And.intro (by omega) ?_ | refine drawn_q ?_ | fail)
    exact ⟨rfl, k + 1, by simp (disch := omega) only [push_cast, ↓reduceIte, zA, zG, zB, zH, zI, zC, zJ, zK, zL, zD, zE, zF, zM, zN, zO, zP, zQ, reduceCtorEq, not_true_eq_false, not_false_eq_true], ⟨by omega, l8.trans l9⟩, by dsimp only; omega⟩
  · have hkk : k = s'.L.length := by omega
    subst hkk
    rw [List.take_length] at ht0 ht1 ⊢
    have hd5 : decide ((s'.L.length : Int) < (s'.L.length : Int)) = false := decide_eq_false (by omega)
    have V8 := V7.later l8
    have B8 := B7.chg (Chg.of_later (ks := []) l8) (by simp)
    obtain ⟨a0, a1, a2, a3, a4, a5⟩ := actAt B8
    have l08 := l07.trans l8
    have qf : ∀ w', Later w8 w' → FnC Try.prog 17 #[.pointer (some ⟨bk, 0, none⟩)] w' fun u w'' => u = .int .i64 (room - tl s'.L) ∧ Later w' w'' := fun w' hl => (free_s bk r s' w' (V8.later hl) G6).mono fun u w'' h => ⟨by rw [h.1, hsr6], h.2⟩
    have e1 : decide (room < tl s'.L) = false := decide_eq_false (by omega)
    have e2 : decide (room - tl s'.L = room - tl s'.L) = true := decide_eq_true rfl
    have e3 : f ≠ 0 → decide (room - tl s'.L = s.room - tl s.L) = true := fun h => decide_eq_true (by rw [d2 h, hsr])
    have hsr' := hsr
    clear V2 V3 V4 V6 V7 l2 l3 l4 l5 l7 l8 l03 l04 l05 l06 l07 c6 B3 B4 B5 B6 B7 hO l1 V1
    generalize hTT : tl s'.L = T at *
    have fin : ∀ w', Later w8 w' → Later w w' ∧ ∃ s, VS w' bk r s ∧ Good s ∧ s.room = room := fun w' hl => ⟨l08.trans hl, s', V8.later hl, G6, hsr6⟩
    have hw0 : -16777216 ≤ s.room - tl s.L ∧ s.room - tl s.L ≤ 16777216 := by
      have := G2.tot; have := tl_nn s.L; omega
    obtain ⟨bo, bc, hbv⟩ := hxi.sl.slice
    rw [List.length_map] at hbv
    rw [hbv] at a4
    have hbl := (fit_is hf).2.2
    by_cases hf0 : f = 0
    · subst hf0
      have hdf : decide ((0 : Int) = 0) = true := rfl
      by_cases hk1 : x.kind = 1
      · have hd6 := decide_eq_true hk1
        have e4 : decide (room - T = s.room - tl s.L - (x.b.length : Int)) = true := decide_eq_true (by have := d3 hk1 rfl; omega)
        repeat' (first | (simp (disch := omega) only [push_cast, ↓reduceIte, zA, zG, zB, zH, zI, zC, zJ, zK, zL, zD, zE, zF, zM, zN, zO, zP, zQ, reduceCtorEq, not_true_eq_false, not_false_eq_true, hd5, e1]) | (first | refine vIfE_of ?_ ?_ | refine vIfD_of ?_ ?_ | refine vIfQ_of ?_ ?_ | refine vIfV_of ?_ ?_) <;> intro _ | refine And.intro (by omega) ?_ | refine drawn_q ?_ | fail)
        refine QFn.of hb17 (v := .int .i64 (room - T)) qf ?_
        repeat' (first | (simp (disch := omega) only [push_cast, ↓reduceIte, zA, zG, zB, zH, zI, zC, zJ, zK, zL, zD, zE, zF, zM, zN, zO, zP, zQ, reduceCtorEq, not_true_eq_false, not_false_eq_true, e2, hdf, a0, a4, hd6, decide_true, addr_add_eq, Nat.zero_add]) | (first | refine vIfE_of ?_ ?_ | refine vIfD_of ?_ ?_ | refine vIfQ_of ?_ ?_ | refine vIfV_of ?_ ?_) <;> intro _ | refine And.intro (by omega) ?_ | refine drawn_q ?_ | fail)
        refine QFn.of hb17 (v := .int .i64 (room - T)) qf ?_
        repeat' (first | (simp (disch := omega) only [push_cast, ↓reduceIte, zA, zG, zB, zH, zI, zC, zJ, zK, zL, zD, zE, zF, zM, zN, zO, zP, zQ, reduceCtorEq, not_true_eq_false, not_false_eq_true, e2, hdf, a0, a4, hd6, e4, decide_true, addr_add_eq, Nat.zero_add]) | (first | refine vIfE_of ?_ ?_ | refine vIfD_of ?_ ?_ | refine vIfQ_of ?_ ?_ | refine vIfV_of ?_ ?_) <;> intro _ | refine And.intro (by omega) ?_ | refine drawn_q ?_ | fail)
        exact fun w' hl => ⟨rfl, i + 1, by simp (disch := omega) only [push_cast, ↓reduceIte, zA, zG, zB, zH, zI, zC, zJ, zK, zL, zD, zE, zF, zM, zN, zO, zP, zQ, reduceCtorEq, not_true_eq_false, not_false_eq_true], ⟨by omega, fin w' hl⟩, by dsimp only; omega⟩
      · have hd6 := decide_eq_false hk1
        repeat' (first | (simp (disch := omega) only [push_cast, ↓reduceIte, zA, zG, zB, zH, zI, zC, zJ, zK, zL, zD, zE, zF, zM, zN, zO, zP, zQ, reduceCtorEq, not_true_eq_false, not_false_eq_true, hd5, e1]) | (first | refine vIfE_of ?_ ?_ | refine vIfD_of ?_ ?_ | refine vIfQ_of ?_ ?_ | refine vIfV_of ?_ ?_) <;> intro _ | refine And.intro (by omega) ?_ | refine drawn_q ?_ | fail)
        refine QFn.of hb17 (v := .int .i64 (room - T)) qf ?_
        repeat' (first | (simp (disch := omega) only [push_cast, ↓reduceIte, zA, zG, zB, zH, zI, zC, zJ, zK, zL, zD, zE, zF, zM, zN, zO, zP, zQ, reduceCtorEq, not_true_eq_false, not_false_eq_true, e2, hdf, a0, a4, hd6, decide_true, addr_add_eq, Nat.zero_add]) | (first | refine vIfE_of ?_ ?_ | refine vIfD_of ?_ ?_ | refine vIfQ_of ?_ ?_ | refine vIfV_of ?_ ?_) <;> intro _ | refine And.intro (by omega) ?_ | refine drawn_q ?_ | fail)
        exact fun w' hl => ⟨rfl, i + 1, by simp (disch := omega) only [push_cast, ↓reduceIte, zA, zG, zB, zH, zI, zC, zJ, zK, zL, zD, zE, zF, zM, zN, zO, zP, zQ, reduceCtorEq, not_true_eq_false, not_false_eq_true], ⟨by omega, fin w' hl⟩, by dsimp only; omega⟩
    · have hdf := decide_eq_false hf0
      have e5 := e3 hf0
      by_cases hk1 : x.kind = 1
      · have hd6 := decide_eq_true hk1
        repeat' (first | (simp (disch := omega) only [push_cast, ↓reduceIte, zA, zG, zB, zH, zI, zC, zJ, zK, zL, zD, zE, zF, zM, zN, zO, zP, zQ, reduceCtorEq, not_true_eq_false, not_false_eq_true, hd5, e1]) | (first | refine vIfE_of ?_ ?_ | refine vIfD_of ?_ ?_ | refine vIfQ_of ?_ ?_ | refine vIfV_of ?_ ?_) <;> intro _ | refine And.intro (by omega) ?_ | refine drawn_q ?_ | fail)
        refine QFn.of hb17 (v := .int .i64 (room - T)) qf ?_
        repeat' (first | (simp (disch := omega) only [push_cast, ↓reduceIte, zA, zG, zB, zH, zI, zC, zJ, zK, zL, zD, zE, zF, zM, zN, zO, zP, zQ, reduceCtorEq, not_true_eq_false, not_false_eq_true, e2, hdf, decide_true, decide_false]) | (first | refine vIfE_of ?_ ?_ | refine vIfD_of ?_ ?_ | refine vIfQ_of ?_ ?_ | refine vIfV_of ?_ ?_) <;> intro _ | refine And.intro (by omega) ?_ | refine drawn_q ?_ | fail)
        refine QFn.of hb17 (v := .int .i64 (room - T)) qf ?_
        repeat' (first | (simp (disch := omega) only [push_cast, ↓reduceIte, zA, zG, zB, zH, zI, zC, zJ, zK, zL, zD, zE, zF, zM, zN, zO, zP, zQ, reduceCtorEq, not_true_eq_false, not_false_eq_true, e2, hdf, e5, a0, a4, hd6, decide_true, decide_false, addr_add_eq, Nat.zero_add]) | (first | refine vIfE_of ?_ ?_ | refine vIfD_of ?_ ?_ | refine vIfQ_of ?_ ?_ | refine vIfV_of ?_ ?_) <;> intro _ | refine And.intro (by omega) ?_ | refine drawn_q ?_ | fail)
        exact fun w' hl => ⟨rfl, i + 1, by simp (disch := omega) only [push_cast, ↓reduceIte, zA, zG, zB, zH, zI, zC, zJ, zK, zL, zD, zE, zF, zM, zN, zO, zP, zQ, reduceCtorEq, not_true_eq_false, not_false_eq_true], ⟨by omega, fin w' hl⟩, by dsimp only; omega⟩
      · have hd6 := decide_eq_false hk1
        repeat' (first | (simp (disch := omega) only [push_cast, ↓reduceIte, zA, zG, zB, zH, zI, zC, zJ, zK, zL, zD, zE, zF, zM, zN, zO, zP, zQ, reduceCtorEq, not_true_eq_false, not_false_eq_true, hd5, e1]) | (first | refine vIfE_of ?_ ?_ | refine vIfD_of ?_ ?_ | refine vIfQ_of ?_ ?_ | refine vIfV_of ?_ ?_) <;> intro _ | refine And.intro (by omega) ?_ | refine drawn_q ?_ | fail)
        refine QFn.of hb17 (v := .int .i64 (room - T)) qf ?_
        repeat' (first | (simp (disch := omega) only [push_cast, ↓reduceIte, zA, zG, zB, zH, zI, zC, zJ, zK, zL, zD, zE, zF, zM, zN, zO, zP, zQ, reduceCtorEq, not_true_eq_false, not_false_eq_true, e2, hdf, decide_true, decide_false]) | (first | refine vIfE_of ?_ ?_ | refine vIfD_of ?_ ?_ | refine vIfQ_of ?_ ?_ | refine vIfV_of ?_ ?_) <;> intro _ | refine And.intro (by omega) ?_ | refine drawn_q ?_ | fail)
        refine QFn.of hb17 (v := .int .i64 (room - T)) qf ?_
        repeat' (first | (simp (disch := omega) only [push_cast, ↓reduceIte, zA, zG, zB, zH, zI, zC, zJ, zK, zL, zD, zE, zF, zM, zN, zO, zP, zQ, reduceCtorEq, not_true_eq_false, not_false_eq_true, e2, hdf, e5, a0, a4, hd6, decide_true, decide_false, addr_add_eq, Nat.zero_add]) | (first | refine vIfE_of ?_ ?_ | refine vIfD_of ?_ ?_ | refine vIfQ_of ?_ ?_ | refine vIfV_of ?_ ?_) <;> intro _ | refine And.intro (by omega) ?_ | refine drawn_q ?_ | fail)
        exact fun w' hl => ⟨rfl, i + 1, by simp (disch := omega) only [push_cast, ↓reduceIte, zA, zG, zB, zH, zI, zC, zJ, zK, zL, zD, zE, zF, zM, zN, zO, zP, zQ, reduceCtorEq, not_true_eq_false, not_false_eq_true], ⟨by omega, fin w' hl⟩, by dsimp only; omega⟩
theorem own : ownKnob Try.prog.godebug = none := by kernel_rfl
theorem lifted (os : Os) (started : os.Started) (H : Type) (enc : TypeId × Value → H) :
    ReturnsInHanded {} Try.checked os 4 .any (Rows.vaultRoomSpec.pre6 enc Try.prog Try.f4 Rows.vaultRoomRow.domain false) (Rows.vaultRoomSpec.post enc Try.prog Try.f4 false true false false) := by
  refine lifted_later (C := Try.checked) own started (by kernel_rfl) Try.func4 hb4
    (ChangeSpec.witness6 (enc := enc) (C := Try.checked) false ⟨#[], #[.int .i64 0, .slice none 0 0], []⟩ 4 (by kernel_rfl) (by kernel_rfl) (by kernel_rfl) (by kernel_rfl))
    (by kernel_rfl) (list_all (by kernel_rfl)) (by kernel_rfl) Try.underlying4 rfl ?_ ?_
  · intro ds h
    have h : ds.length = 2 := h
    match ds, h with
    | [_, _], _ => rfl
  · intro W base args ds p hval0 hA0
    have hval : ∀ (j : Nat) t v, Try.f4.params[j]? = some t → args[j]? = some v → Value.okWide Try.prog W .any base t v := hval0
    have hA : DataW.TrodAll enc Try.prog W 0 (fun _ => true) true Try.f4.params.toList args.toList ds p := hA0
    rw [Try.params4] at hA hval
    obtain ⟨v0, vs0, d0, ds0, p0, q0, hargs, rfl, rfl, h0, r0⟩ := trodAll_cons hA
    obtain ⟨v1, vs1, d1, ds1, p1, q1, rfl, rfl, rfl, h1, r1⟩ := trodAll_cons r0
    obtain ⟨rfl, rfl, rfl⟩ := trodAll_nil r1
    obtain rfl : args = #[v0, v1] := by cases args; simp_all
    obtain ⟨a0, rfl, rfl, rfl, w0⟩ := open_int Try.underlying3 (hval 0 3 v0 rfl rfl) h0
    obtain ⟨a1, w1⟩ := open_acts (hval 1 35 v1 rfl rfl) h1
    exact law_c a0 v1 a1 W (i64_of_wf w0) w1.1 w1.2
theorem over : Rows.vaultRoomRow.holds Try.pinned (OpenSpec.ofChange Rows.vaultRoomSpec) :=
  OpenClaim.holds_of_wide 4 Try.f4 rfl rfl rfl rfl rfl rfl rfl ⟨rfl, rfl, rfl, rfl, rfl⟩ rfl rfl rfl rfl rfl (by kernel_rfl) Try.func4 (by kernel_rfl)
    (of_decide_eq_true (by kernel_rfl)) (by unfold Func.isWrapper; first | (rw [if_pos (by decide +kernel)]; kernel_rfl) | (rw [if_neg (by decide +kernel)]; exact ⟨rfl, rfl⟩))
    (fun os started H enc _ => lifted os started H enc)
/-- The statement. -/
theorem proved : Rows.VaultRoomSaid :=
  over
end Go.Proofs.Ytmfcnooleejgmaa.vaultRoom
