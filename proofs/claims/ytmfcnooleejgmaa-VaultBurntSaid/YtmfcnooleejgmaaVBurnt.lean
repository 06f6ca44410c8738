/- VaultBurnt holds for every input: of a vault with a fuse of n the first n - 1 acts that may be do what they do without one; from the n-th on nothing changes, and each is ErrStore. -/
import Derived.Test.YtmfcnooleejgmaaRows
import Derived.Test.YtmfcnooleejgmaaPartG
set_option linter.all false
open Nat renaming reduceEqDiff → zA, reducePow → zB, reduceMul → zC, reduceAdd → zD, reduceSub → zE, reduceLeDiff → zF
open Int renaming reduceToNat → zG, reducePow → zH, reduceNeg → zI, reduceMul → zJ, reduceAdd → zK, reduceSub → zL, reduceLT → zM, reduceLE → zN, reduceEq → zO, reduceMod → zP, reduceDiv → zQ
set_option linter.unusedSimpArgs false
namespace Go.Proofs.Ytmfcnooleejgmaa.vaultBurnt
open Go.Vc Go.Vlt Go.Key Go.ChangeShapes Go.WideShapes Go.ChangeAt Go.RowKit
set_option maxRecDepth 100000
/-- What is left of the fuse. -/
def fz (n d : Nat) : Int := ((n - d : Nat) : Int)
theorem brn_fz {n d : Nat} : brn (fz n d) = fz n (d + 1) := by unfold brn fz; split <;> omega
structure BS (w w' : World) (bk r bl q : Nat) (n : Nat) (d : Nat) (L : List Fl) : Prop where
  later : Later w w'
  v : VS w' bk r ⟨5000, fz n d, L⟩
  m : VS w' bl q ⟨5000, -1, L⟩
  good : Good ⟨5000, -1, L⟩
theorem BS.next {w w1 w2 : World} {bk r bl q n d : Nat} {L : List Fl} (h : BS w w1 bk r bl q n d L) (hl : Later w1 w2) : BS w w2 bk r bl q n d L := ⟨h.later.trans hl, h.v.later hl, h.m.later hl, h.good⟩
theorem good_f {L : List Fl} (g : Good ⟨5000, -1, L⟩) {f : Int} (hf : -1 ≤ f ∧ f ≤ 9223372036854775807) : Good ⟨5000, f, L⟩ := ⟨g.room, hf, g.srd, g.names, g.safe, g.tot, g.len⟩
theorem fz_rng (n d : Nat) (hn : n ≤ 80) : -1 ≤ fz n d ∧ fz n d ≤ 9223372036854775807 := by unfold fz; omega
set_option maxHeartbeats 1000000 in
theorem law_c (n0 : Int) (sv : Value) (l : List ActD) (w : World) (hn0 : -9223372036854775808 ≤ n0 ∧ n0 ≤ 9223372036854775807) (hs : RecS acC 5 w sv l) (hx : ∀ x ∈ l, x.Ok w) : FnC Try.prog 6 #[.int .i64 n0, sv] w fun v w' => v = .bool true ∧ Later w w' := by
  obtain ⟨so, sc, rfl, hs1, hs2⟩ := RecS.slice hs
  refine enter6 _ _ ?_
  unfold B6
  repeat' (first | (simp (disch := omega) only [push_cast, ↓reduceIte, zA, zG, zB, zH, zI, zC, zJ, zK, zL, zD, zE, zF, zM, zN, zO, zP, zQ, reduceCtorEq, not_true_eq_false, not_false_eq_true]) | (first | refine vIfE_of ?_ ?_ | refine vIfD_of ?_ ?_ | refine vIfQ_of ?_ ?_ | refine vIfV_of ?_ ?_) <;> intro _ | refine And.intro (by omega) ?_ | refine drawn_q ?_ | fail)
  refine (new_s 5000 w (by omega)).mono ?_
  rintro _ w1 ⟨⟨_, hno⟩ | ⟨_, _, bk, r, hbk, hr, rfl, V1⟩, l1⟩
  · exact absurd (by omega) hno
  repeat' (first | (simp (disch := omega) only [push_cast, ↓reduceIte, zA, zG, zB, zH, zI, zC, zJ, zK, zL, zD, zE, zF, zM, zN, zO, zP, zQ, reduceCtorEq, not_true_eq_false, not_false_eq_true]) | (first | refine vIfE_of ?_ ?_ | refine vIfD_of ?_ ?_ | refine vIfQ_of ?_ ?_ | refine vIfV_of ?_ ?_) <;> intro _ | refine And.intro (by omega) ?_ | refine drawn_q ?_ | fail)
  refine (new_s 5000 w1 (by omega)).mono ?_
  rintro _ w2 ⟨⟨_, hno⟩ | ⟨_, _, bl, q, hbl, hq, rfl, M2⟩, l12⟩
  · exact absurd (by omega) hno
  have hlt1 := V1.lt
  have V2 := V1.later l12
  have l2 := l1.trans l12
  have G2 : Good ⟨5000, -1, []⟩ := s0_good (by omega)
  by_cases hn1 : n0 < 1
  · have hd := decide_eq_true hn1
    repeat' (first | (simp (disch := omega) only [push_cast, ↓reduceIte, zA, zG, zB, zH, zI, zC, zJ, zK, zL, zD, zE, zF, zM, zN, zO, zP, zQ, reduceCtorEq, not_true_eq_false, not_false_eq_true, hd]) | (first | refine vIfE_of ?_ ?_ | refine vIfD_of ?_ ?_ | refine vIfQ_of ?_ ?_ | refine vIfV_of ?_ ?_) <;> intro _ | refine And.intro (by omega) ?_ | refine drawn_q ?_ | fail)
    refine (alive_c w2).mono ?_
    rintro _ w3 ⟨rfl, l3⟩
    repeat' (first | (simp (disch := omega) only [push_cast, ↓reduceIte, zA, zG, zB, zH, zI, zC, zJ, zK, zL, zD, zE, zF, zM, zN, zO, zP, zQ, reduceCtorEq, not_true_eq_false, not_false_eq_true]) | (first | refine vIfE_of ?_ ?_ | refine vIfD_of ?_ ?_ | refine vIfQ_of ?_ ?_ | refine vIfV_of ?_ ?_) <;> intro _ | refine And.intro (by omega) ?_ | refine drawn_q ?_ | fail)
    refine (arm_s bk r _ n0 w3 (V2.later l3)).mono ?_
    rintro _ w4 ⟨rfl, V4, c4⟩
    have l4 := chg_later (l2.trans l3) c4 hbk hr
    unfold aArm
    by_cases hneg : n0 < 0
    · have hd3 : decide (0 ≤ n0) = false := decide_eq_false (by omega)
      have e1 : decide ((1 : Int) = 0) = false := rfl
      rw [if_pos hneg]
      repeat' (first | (simp (disch := omega) only [push_cast, ↓reduceIte, zA, zG, zB, zH, zI, zC, zJ, zK, zL, zD, zE, zF, zM, zN, zO, zP, zQ, reduceCtorEq, not_true_eq_false, not_false_eq_true, hd3, e1]) | (first | refine vIfE_of ?_ ?_ | refine vIfD_of ?_ ?_ | refine vIfQ_of ?_ ?_ | refine vIfV_of ?_ ?_) <;> intro _ | refine And.intro (by omega) ?_ | refine drawn_q ?_ | fail)
      first | exact ⟨by simp, l4⟩ | first | exact ⟨rfl, l4⟩ | exact l4
    · have hd3 : decide (0 ≤ n0) = true := decide_eq_true (by omega)
      have e1 : decide ((0 : Int) = 0) = true := rfl
      rw [if_neg hneg]
      repeat' (first | (simp (disch := omega) only [push_cast, ↓reduceIte, zA, zG, zB, zH, zI, zC, zJ, zK, zL, zD, zE, zF, zM, zN, zO, zP, zQ, reduceCtorEq, not_true_eq_false, not_false_eq_true, hd3, e1]) | (first | refine vIfE_of ?_ ?_ | refine vIfD_of ?_ ?_ | refine vIfQ_of ?_ ?_ | refine vIfV_of ?_ ?_) <;> intro _ | refine And.intro (by omega) ?_ | refine drawn_q ?_ | fail)
      first | exact ⟨by simp, l4⟩ | first | exact ⟨rfl, l4⟩ | exact l4
  have hd := decide_eq_false hn1
  by_cases hn80 : 80 < n0
  · have hd2 := decide_eq_true hn80
    repeat' (first | (simp (disch := omega) only [push_cast, ↓reduceIte, zA, zG, zB, zH, zI, zC, zJ, zK, zL, zD, zE, zF, zM, zN, zO, zP, zQ, reduceCtorEq, not_true_eq_false, not_false_eq_true, hd, hd2]) | (first | refine vIfE_of ?_ ?_ | refine vIfD_of ?_ ?_ | refine vIfQ_of ?_ ?_ | refine vIfV_of ?_ ?_) <;> intro _ | refine And.intro (by omega) ?_ | refine drawn_q ?_ | fail)
    refine (alive_c w2).mono ?_
    rintro _ w3 ⟨rfl, l3⟩
    repeat' (first | (simp (disch := omega) only [push_cast, ↓reduceIte, zA, zG, zB, zH, zI, zC, zJ, zK, zL, zD, zE, zF, zM, zN, zO, zP, zQ, reduceCtorEq, not_true_eq_false, not_false_eq_true]) | (first | refine vIfE_of ?_ ?_ | refine vIfD_of ?_ ?_ | refine vIfQ_of ?_ ?_ | refine vIfV_of ?_ ?_) <;> intro _ | refine And.intro (by omega) ?_ | refine drawn_q ?_ | fail)
    refine (arm_s bk r _ n0 w3 (V2.later l3)).mono ?_
    rintro _ w4 ⟨rfl, V4, c4⟩
    have l4 := chg_later (l2.trans l3) c4 hbk hr
    unfold aArm
    have hd3 : decide (0 ≤ n0) = true := decide_eq_true (by omega)
    have e1 : decide ((0 : Int) = 0) = true := rfl
    rw [if_neg (by omega)]
    repeat' (first | (simp (disch := omega) only [push_cast, ↓reduceIte, zA, zG, zB, zH, zI, zC, zJ, zK, zL, zD, zE, zF, zM, zN, zO, zP, zQ, reduceCtorEq, not_true_eq_false, not_false_eq_true, hd3, e1]) | (first | refine vIfE_of ?_ ?_ | refine vIfD_of ?_ ?_ | refine vIfQ_of ?_ ?_ | refine vIfV_of ?_ ?_) <;> intro _ | refine And.intro (by omega) ?_ | refine drawn_q ?_ | fail)
    first | exact ⟨by simp, l4⟩ | first | exact ⟨rfl, l4⟩ | exact l4
  have hd2 := decide_eq_false hn80
  obtain ⟨n, rfl⟩ : ∃ n : Nat, n0 = n := ⟨n0.toNat, by omega⟩
  repeat' (first | (simp (disch := omega) only [push_cast, ↓reduceIte, zA, zG, zB, zH, zI, zC, zJ, zK, zL, zD, zE, zF, zM, zN, zO, zP, zQ, reduceCtorEq, not_true_eq_false, not_false_eq_true, hd, hd2]) | (first | refine vIfE_of ?_ ?_ | refine vIfD_of ?_ ?_ | refine vIfQ_of ?_ ?_ | refine vIfV_of ?_ ?_) <;> intro _ | refine And.intro (by omega) ?_ | refine drawn_q ?_ | fail)
  refine (arm_s bk r _ n w2 V2).mono ?_
  rintro _ w3 ⟨rfl, V3, c3⟩
  have ea : aArm (n : Int) (s0 5000) = (0, ⟨5000, n, []⟩) := by unfold aArm; rw [if_neg (by omega)]; rfl
  rw [ea] at V3 ⊢
  dsimp only at V3
  have M3 := M2.other V2 c3 (by omega) (by omega)
  have l3 := chg_later l2 c3 hbk hr
  have S3 : BS w w3 bk r bl q n 0 [] := ⟨l3, V3, M3, G2⟩
  have hnn : 1 ≤ n ∧ n ≤ 80 := by omega
  repeat' (first | (simp (disch := omega) only [push_cast, ↓reduceIte, zA, zG, zB, zH, zI, zC, zJ, zK, zL, zD, zE, zF, zM, zN, zO, zP, zQ, reduceCtorEq, not_true_eq_false, not_false_eq_true]) | (first | refine vIfE_of ?_ ?_ | refine vIfD_of ?_ ?_ | refine vIfQ_of ?_ ?_ | refine vIfV_of ?_ ?_) <;> intro _ | refine And.intro (by omega) ?_ | refine drawn_q ?_ | fail)
  refine vc_loop W6_0 (fun s : Nat × Nat => [(4, .bool false), (9, .int .i64 (s.2 : Int)), (10, .int .i64 (s.1 : Int))]) (fun s w' => s.1 ≤ l.length ∧ s.1 ≤ 80 ∧ s.2 ≤ s.1 ∧ ∃ L, BS w w' bk r bl q n s.2 L) (fun s => l.length - s.1) (0, 0) (by decide) ?_ ?_ ?_
  · simp (disch := omega) only [push_cast, ↓reduceIte, zA, zG, zB, zH, zI, zC, zJ, zK, zL, zD, zE, zF, zM, zN, zO, zP, zQ, reduceCtorEq, not_true_eq_false, not_false_eq_true]
    try rfl
  · exact ⟨Nat.zero_le _, by omega, Nat.zero_le _, [], S3⟩
  have hwbl : w.heap.size ≤ bl := Nat.le_trans l1.size hbl
  have hwq : w.heap.size ≤ q := Nat.le_trans l1.size hq
  have hbb : bk ≠ bl := by omega
  have hrq : r ≠ q := by omega
  clear S3 V3 M3 l3 c3 V2 M2 l2 l12 l1 V1 G2 ea
  rintro ⟨i, d⟩ uu w2 ⟨hi, hi80, hdi, L, S2⟩
  dsimp only at hi hi80 hdi S2
  by_cases h1 : i < l.length
  case neg =>
    have hd : decide ((i : Int) < (l.length : Int)) = false := decide_eq_false (by omega)
    repeat' (first | (simp (disch := omega) only [push_cast, ↓reduceIte, zA, zG, zB, zH, zI, zC, zJ, zK, zL, zD, zE, zF, zM, zN, zO, zP, zQ, reduceCtorEq, not_true_eq_false, not_false_eq_true, hd]) | (first | refine vIfE_of ?_ ?_ | refine vIfD_of ?_ ?_ | refine vIfQ_of ?_ ?_ | refine vIfV_of ?_ ?_) <;> intro _ | refine And.intro (by omega) ?_ | refine drawn_q ?_ | fail)
    refine (list_s bk r ⟨5000, fz n d, L⟩ w2 S2.v (good_f S2.good (fz_rng n d hnn.2))).mono ?_
    rintro lv w3 ⟨hO, l3⟩
    obtain ⟨lo, lc, rfl⟩ := OwnN.slice hO
    rw [List.length_map] at hO ⊢
    repeat' (first | (simp (disch := omega) only [push_cast, ↓reduceIte, zA, zG, zB, zH, zI, zC, zJ, zK, zL, zD, zE, zF, zM, zN, zO, zP, zQ, reduceCtorEq, not_true_eq_false, not_false_eq_true]) | (first | refine vIfE_of ?_ ?_ | refine vIfD_of ?_ ?_ | refine vIfQ_of ?_ ?_ | refine vIfV_of ?_ ?_) <;> intro _ | refine And.intro (by omega) ?_ | refine drawn_q ?_ | fail)
    refine (list_s bl q ⟨5000, -1, L⟩ w3 (S2.m.later l3) S2.good).mono ?_
    rintro mv w4 ⟨hO2, l4⟩
    have hOs : StS w4 (.slice lo L.length lc) (L.map Fl.name) := OwnN.st (own_later hO l4)
    have hO2s := OwnN.st hO2
    obtain ⟨mo, mc, rfl⟩ := OwnN.slice hO2
    rw [List.length_map] at hO2s ⊢
    repeat' (first | (simp (disch := omega) only [push_cast, ↓reduceIte, zA, zG, zB, zH, zI, zC, zJ, zK, zL, zD, zE, zF, zM, zN, zO, zP, zQ, reduceCtorEq, not_true_eq_false, not_false_eq_true]) | (first | refine vIfE_of ?_ ?_ | refine vIfD_of ?_ ?_ | refine vIfQ_of ?_ ?_ | refine vIfV_of ?_ ?_) <;> intro _ | refine And.intro (by omega) ?_ | refine drawn_q ?_ | fail)
    refine (texts_c _ _ _ _ w4 hOs hO2s).mono ?_
    rintro _ w5 ⟨rfl, l5⟩
    have et : decide (L.map Fl.name = L.map Fl.name) = true := decide_eq_true rfl
    dsimp only
    rw [et]
    have S5 := S2.next (l3.trans (l4.trans l5))
    have hO5 := Sl.later hOs l5
    have hlen := S2.good.len
    dsimp only at hlen
    clear S2 hO hO2 hOs hO2s l3 l4 l5
    repeat' (first | (simp (disch := omega) only [push_cast, ↓reduceIte, zA, zG, zB, zH, zI, zC, zJ, zK, zL, zD, zE, zF, zM, zN, zO, zP, zQ, reduceCtorEq, not_true_eq_false, not_false_eq_true]) | (first | refine vIfE_of ?_ ?_ | refine vIfD_of ?_ ?_ | refine vIfQ_of ?_ ?_ | refine vIfV_of ?_ ?_) <;> intro _ | refine And.intro (by omega) ?_ | refine drawn_q ?_ | fail)
    refine vc_loop W6_1 (fun k : Nat => [(4, .bool false), (16, .int .i64 (k : Int))]) (fun k w' => k ≤ L.length ∧ BS w w' bk r bl q n d L ∧ Later w5 w') (fun k => L.length - k) 0 (by decide) ?_ ?_ ?_
    · simp (disch := omega) only [push_cast, ↓reduceIte, zA, zG, zB, zH, zI, zC, zJ, zK, zL, zD, zE, zF, zM, zN, zO, zP, zQ, reduceCtorEq, not_true_eq_false, not_false_eq_true]
      try rfl
    · exact ⟨Nat.zero_le _, S5, Later.refl _⟩
    rintro k u2 w6 ⟨hk, S6, l56⟩
    by_cases hkl : k < L.length
    · have hd5 : decide ((k : Int) < (L.length : Int)) = true := decide_eq_true (by omega)
      obtain ⟨la, rfl⟩ := Sl.some hO5 (i := k) (by simpa using hkl)
      have hc : w6.cell? (la.add k) = some (.string (L[k]).name) := Sl.at (hO5.later l56) (by simp [hkl])
      repeat' (first | (simp (disch := omega) only [push_cast, ↓reduceIte, zA, zG, zB, zH, zI, zC, zJ, zK, zL, zD, zE, zF, zM, zN, zO, zP, zQ, reduceCtorEq, not_true_eq_false, not_false_eq_true, hd5, hc]) | (first | refine vIfE_of ?_ ?_ | refine vIfD_of ?_ ?_ | refine vIfQ_of ?_ ?_ | refine vIfV_of ?_ ?_) <;> intro _ | refine And.intro (by omega) ?_ | refine drawn_q ?_ | fail)
      refine (read_s bk r _ _ w6 S6.v (good_f S6.good (fz_rng n d hnn.2))).mono ?_
      rintro _ w7 ⟨⟨y, rfl, hy⟩, l7⟩
      have S7 := S6.next l7
      have hc7 : w7.cell? (la.add k) = some (.string (L[k]).name) := Sl.at (hO5.later (l56.trans l7)) (by simp [hkl])
      dsimp only at hy ⊢
      obtain ⟨yo, yc, rfl⟩ := hy.slice
      repeat' (first | (simp (disch := omega) only [push_cast, ↓reduceIte, zA, zG, zB, zH, zI, zC, zJ, zK, zL, zD, zE, zF, zM, zN, zO, zP, zQ, reduceCtorEq, not_true_eq_false, not_false_eq_true, hc7]) | (first | refine vIfE_of ?_ ?_ | refine vIfD_of ?_ ?_ | refine vIfQ_of ?_ ?_ | refine vIfV_of ?_ ?_) <;> intro _ | refine And.intro (by omega) ?_ | refine drawn_q ?_ | fail)
      refine (read_s bl q _ _ w7 S7.m S7.good).mono ?_
      rintro _ w8 ⟨⟨z, rfl, hz⟩, l8⟩
      have S8 := S7.next l8
      dsimp only at hz ⊢
      obtain ⟨zo, zc, rfl⟩ := hz.slice
      repeat' (first | (simp (disch := omega) only [push_cast, ↓reduceIte, zA, zG, zB, zH, zI, zC, zJ, zK, zL, zD, zE, zF, zM, zN, zO, zP, zQ, reduceCtorEq, not_true_eq_false, not_false_eq_true]) | (first | refine vIfE_of ?_ ?_ | refine vIfD_of ?_ ?_ | refine vIfQ_of ?_ ?_ | refine vIfV_of ?_ ?_) <;> intro _ | refine And.intro (by omega) ?_ | refine drawn_q ?_ | fail)
      refine vConv_bytes Try.underlying22 Try.underlying9 Try.underlying5 (hy.sl.later l8) ?_
      repeat' (first | (simp (disch := omega) only [push_cast, ↓reduceIte, zA, zG, zB, zH, zI, zC, zJ, zK, zL, zD, zE, zF, zM, zN, zO, zP, zQ, reduceCtorEq, not_true_eq_false, not_false_eq_true]) | (first | refine vIfE_of ?_ ?_ | refine vIfD_of ?_ ?_ | refine vIfQ_of ?_ ?_ | refine vIfV_of ?_ ?_) <;> intro _ | refine And.intro (by omega) ?_ | refine drawn_q ?_ | fail)
      refine vConv_bytes Try.underlying22 Try.underlying9 Try.underlying5 hz.sl ?_
      have e9 : decide (strOf (oB (L[k]).name L) = strOf (oB (L[k]).name L)) = true := decide_eq_true rfl
      repeat' (first | (simp (disch := omega) only [push_cast, ↓reduceIte, zA, zG, zB, zH, zI, zC, zJ, zK, zL, zD, zE, zF, zM, zN, zO, zP, zQ, reduceCtorEq, not_true_eq_false, not_false_eq_true, e9]) | (first | refine vIfE_of ?_ ?_ | refine vIfD_of ?_ ?_ | refine vIfQ_of ?_ ?_ | refine vIfV_of ?_ ?_) <;> intro _ | refine And.intro (by omega) ?_ | refine drawn_q ?_ | fail)
      exact ⟨rfl, k + 1, by simp (disch := omega) only [push_cast, ↓reduceIte, zA, zG, zB, zH, zI, zC, zJ, zK, zL, zD, zE, zF, zM, zN, zO, zP, zQ, reduceCtorEq, not_true_eq_false, not_false_eq_true], ⟨by omega, S8, l56.trans (l7.trans l8)⟩, by dsimp only; omega⟩
    · have hd5 : decide ((k : Int) < (L.length : Int)) = false := decide_eq_false (by omega)
      repeat' (first | (simp (disch := omega) only [push_cast, ↓reduceIte, zA, zG, zB, zH, zI, zC, zJ, zK, zL, zD, zE, zF, zM, zN, zO, zP, zQ, reduceCtorEq, not_true_eq_false, not_false_eq_true, hd5]) | (first | refine vIfE_of ?_ ?_ | refine vIfD_of ?_ ?_ | refine vIfQ_of ?_ ?_ | refine vIfV_of ?_ ?_) <;> intro _ | refine And.intro (by omega) ?_ | refine drawn_q ?_ | fail)
      refine (alive_c w6).mono ?_
      rintro _ w7 ⟨rfl, l7⟩
      repeat' (first | (simp (disch := omega) only [push_cast, ↓reduceIte, zA, zG, zB, zH, zI, zC, zJ, zK, zL, zD, zE, zF, zM, zN, zO, zP, zQ, reduceCtorEq, not_true_eq_false, not_false_eq_true]) | (first | refine vIfE_of ?_ ?_ | refine vIfD_of ?_ ?_ | refine vIfQ_of ?_ ?_ | refine vIfV_of ?_ ?_) <;> intro _ | refine And.intro (by omega) ?_ | refine drawn_q ?_ | fail)
      first | exact ⟨rfl, (S6.later.trans l7)⟩ | exact (S6.later.trans l7)
  have hd : decide ((i : Int) < (l.length : Int)) = true := decide_eq_true (by omega)
  by_cases h80 : i < 80
  case neg =>
    have hd2 : decide ((i : Int) < 80) = false := decide_eq_false (by omega)
    repeat' (first | (simp (disch := omega) only [push_cast, ↓reduceIte, zA, zG, zB, zH, zI, zC, zJ, zK, zL, zD, zE, zF, zM, zN, zO, zP, zQ, reduceCtorEq, not_true_eq_false, not_false_eq_true, hd, hd2]) | (first | refine vIfE_of ?_ ?_ | refine vIfD_of ?_ ?_ | refine vIfQ_of ?_ ?_ | refine vIfV_of ?_ ?_) <;> intro _ | refine And.intro (by omega) ?_ | refine drawn_q ?_ | fail)
    refine (list_s bk r ⟨5000, fz n d, L⟩ w2 S2.v (good_f S2.good (fz_rng n d hnn.2))).mono ?_
    rintro lv w3 ⟨hO, l3⟩
    obtain ⟨lo, lc, rfl⟩ := OwnN.slice hO
    rw [List.length_map] at hO ⊢
    repeat' (first | (simp (disch := omega) only [push_cast, ↓reduceIte, zA, zG, zB, zH, zI, zC, zJ, zK, zL, zD, zE, zF, zM, zN, zO, zP, zQ, reduceCtorEq, not_true_eq_false, not_false_eq_true]) | (first | refine vIfE_of ?_ ?_ | refine vIfD_of ?_ ?_ | refine vIfQ_of ?_ ?_ | refine vIfV_of ?_ ?_) <;> intro _ | refine And.intro (by omega) ?_ | refine drawn_q ?_ | fail)
    refine (list_s bl q ⟨5000, -1, L⟩ w3 (S2.m.later l3) S2.good).mono ?_
    rintro mv w4 ⟨hO2, l4⟩
    have hOs : StS w4 (.slice lo L.length lc) (L.map Fl.name) := OwnN.st (own_later hO l4)
    have hO2s := OwnN.st hO2
    obtain ⟨mo, mc, rfl⟩ := OwnN.slice hO2
    rw [List.length_map] at hO2s ⊢
    repeat' (first | (simp (disch := omega) only [push_cast, ↓reduceIte, zA, zG, zB, zH, zI, zC, zJ, zK, zL, zD, zE, zF, zM, zN, zO, zP, zQ, reduceCtorEq, not_true_eq_false, not_false_eq_true]) | (first | refine vIfE_of ?_ ?_ | refine vIfD_of ?_ ?_ | refine vIfQ_of ?_ ?_ | refine vIfV_of ?_ ?_) <;> intro _ | refine And.intro (by omega) ?_ | refine drawn_q ?_ | fail)
    refine (texts_c _ _ _ _ w4 hOs hO2s).mono ?_
    rintro _ w5 ⟨rfl, l5⟩
    have et : decide (L.map Fl.name = L.map Fl.name) = true := decide_eq_true rfl
    dsimp only
    rw [et]
    have S5 := S2.next (l3.trans (l4.trans l5))
    have hO5 := Sl.later hOs l5
    have hlen := S2.good.len
    dsimp only at hlen
    clear S2 hO hO2 hOs hO2s l3 l4 l5
    repeat' (first | (simp (disch := omega) only [push_cast, ↓reduceIte, zA, zG, zB, zH, zI, zC, zJ, zK, zL, zD, zE, zF, zM, zN, zO, zP, zQ, reduceCtorEq, not_true_eq_false, not_false_eq_true]) | (first | refine vIfE_of ?_ ?_ | refine vIfD_of ?_ ?_ | refine vIfQ_of ?_ ?_ | refine vIfV_of ?_ ?_) <;> intro _ | refine And.intro (by omega) ?_ | refine drawn_q ?_ | fail)
    refine vc_loop W6_1 (fun k : Nat => [(4, .bool false), (16, .int .i64 (k : Int))]) (fun k w' => k ≤ L.length ∧ BS w w' bk r bl q n d L ∧ Later w5 w') (fun k => L.length - k) 0 (by decide) ?_ ?_ ?_
    · simp (disch := omega) only [push_cast, ↓reduceIte, zA, zG, zB, zH, zI, zC, zJ, zK, zL, zD, zE, zF, zM, zN, zO, zP, zQ, reduceCtorEq, not_true_eq_false, not_false_eq_true]
      try rfl
    · exact ⟨Nat.zero_le _, S5, Later.refl _⟩
    rintro k u2 w6 ⟨hk, S6, l56⟩
    by_cases hkl : k < L.length
    · have hd5 : decide ((k : Int) < (L.length : Int)) = true := decide_eq_true (by omega)
      obtain ⟨la, rfl⟩ := Sl.some hO5 (i := k) (by simpa using hkl)
      have hc : w6.cell? (la.add k) = some (.string (L[k]).name) := Sl.at (hO5.later l56) (by simp [hkl])
      repeat' (first | (simp (disch := omega) only [push_cast, ↓reduceIte, zA, zG, zB, zH, zI, zC, zJ, zK, zL, zD, zE, zF, zM, zN, zO, zP, zQ, reduceCtorEq, not_true_eq_false, not_false_eq_true, hd5, hc]) | (first | refine vIfE_of ?_ ?_ | refine vIfD_of ?_ ?_ | refine vIfQ_of ?_ ?_ | refine vIfV_of ?_ ?_) <;> intro _ | refine And.intro (by omega) ?_ | refine drawn_q ?_ | fail)
      refine (read_s bk r _ _ w6 S6.v (good_f S6.good (fz_rng n d hnn.2))).mono ?_
      rintro _ w7 ⟨⟨y, rfl, hy⟩, l7⟩
      have S7 := S6.next l7
      have hc7 : w7.cell? (la.add k) = some (.string (L[k]).name) := Sl.at (hO5.later (l56.trans l7)) (by simp [hkl])
      dsimp only at hy ⊢
      obtain ⟨yo, yc, rfl⟩ := hy.slice
      repeat' (first | (simp (disch := omega) only [push_cast, ↓reduceIte, zA, zG, zB, zH, zI, zC, zJ, zK, zL, zD, zE, zF, zM, zN, zO, zP, zQ, reduceCtorEq, not_true_eq_false, not_false_eq_true, hc7]) | (first | refine vIfE_of ?_ ?_ | refine vIfD_of ?_ ?_ | refine vIfQ_of ?_ ?_ | refine vIfV_of ?_ ?_) <;> intro _ | refine And.intro (by omega) ?_ | refine drawn_q ?_ | fail)
      refine (read_s bl q _ _ w7 S7.m S7.good).mono ?_
      rintro _ w8 ⟨⟨z, rfl, hz⟩, l8⟩
      have S8 := S7.next l8
      dsimp only at hz ⊢
      obtain ⟨zo, zc, rfl⟩ := hz.slice
      repeat' (first | (simp (disch := omega) only [push_cast, ↓reduceIte, zA, zG, zB, zH, zI, zC, zJ, zK, zL, zD, zE, zF, zM, zN, zO, zP, zQ, reduceCtorEq, not_true_eq_false, not_false_eq_true]) | (first | refine vIfE_of ?_ ?_ | refine vIfD_of ?_ ?_ | refine vIfQ_of ?_ ?_ | refine vIfV_of ?_ ?_) <;> intro _ | refine And.intro (by omega) ?_ | refine drawn_q ?_ | fail)
      refine vConv_bytes Try.underlying22 Try.underlying9 Try.underlying5 (hy.sl.later l8) ?_
      repeat' (first | (simp (disch := omega) only [push_cast, ↓reduceIte, zA, zG, zB, zH, zI, zC, zJ, zK, zL, zD, zE, zF, zM, zN, zO, zP, zQ, reduceCtorEq, not_true_eq_false, not_false_eq_true]) | (first | refine vIfE_of ?_ ?_ | refine vIfD_of ?_ ?_ | refine vIfQ_of ?_ ?_ | refine vIfV_of ?_ ?_) <;> intro _ | refine And.intro (by omega) ?_ | refine drawn_q ?_ | fail)
      refine vConv_bytes Try.underlying22 Try.underlying9 Try.underlying5 hz.sl ?_
      have e9 : decide (strOf (oB (L[k]).name L) = strOf (oB (L[k]).name L)) = true := decide_eq_true rfl
      repeat' (first | (simp (disch := omega) only [push_cast, ↓reduceIte, zA, zG, zB, zH, zI, zC, zJ, zK, zL, zD, zE, zF, zM, zN, zO, zP, zQ, reduceCtorEq, not_true_eq_false, not_false_eq_true, e9]) | (first | refine vIfE_of ?_ ?_ | refine vIfD_of ?_ ?_ | refine vIfQ_of ?_ ?_ | refine vIfV_of ?_ ?_) <;> intro _ | refine And.intro (by omega) ?_ | refine drawn_q ?_ | fail)
      exact ⟨rfl, k + 1, by simp (disch := omega) only [push_cast, ↓reduceIte, zA, zG, zB, zH, zI, zC, zJ, zK, zL, zD, zE, zF, zM, zN, zO, zP, zQ, reduceCtorEq, not_true_eq_false, not_false_eq_true], ⟨by omega, S8, l56.trans (l7.trans l8)⟩, by dsimp only; omega⟩
    · have hd5 : decide ((k : Int) < (L.length : Int)) = false := decide_eq_false (by omega)
      repeat' (first | (simp (disch := omega) only [push_cast, ↓reduceIte, zA, zG, zB, zH, zI, zC, zJ, zK, zL, zD, zE, zF, zM, zN, zO, zP, zQ, reduceCtorEq, not_true_eq_false, not_false_eq_true, hd5]) | (first | refine vIfE_of ?_ ?_ | refine vIfD_of ?_ ?_ | refine vIfQ_of ?_ ?_ | refine vIfV_of ?_ ?_) <;> intro _ | refine And.intro (by omega) ?_ | refine drawn_q ?_ | fail)
      refine (alive_c w6).mono ?_
      rintro _ w7 ⟨rfl, l7⟩
      repeat' (first | (simp (disch := omega) only [push_cast, ↓reduceIte, zA, zG, zB, zH, zI, zC, zJ, zK, zL, zD, zE, zF, zM, zN, zO, zP, zQ, reduceCtorEq, not_true_eq_false, not_false_eq_true]) | (first | refine vIfE_of ?_ ?_ | refine vIfD_of ?_ ?_ | refine vIfQ_of ?_ ?_ | refine vIfV_of ?_ ?_) <;> intro _ | refine And.intro (by omega) ?_ | refine drawn_q ?_ | fail)
      first | exact ⟨rfl, (S6.later.trans l7)⟩ | exact (S6.later.trans l7)
  have hd2 : decide ((i : Int) < 80) = true := decide_eq_true (by omega)
  obtain ⟨a, rfl, fa⟩ := RecS.at acC_len (hs.later S2.later) h1
  have hxi := (hx _ (List.getElem_mem h1))
  generalize l[i] = x at *
  repeat' (first | (simp (disch := omega) only [push_cast, ↓reduceIte, zA, zG, zB, zH, zI, zC, zJ, zK, zL, zD, zE, zF, zM, zN, zO, zP, zQ, reduceCtorEq, not_true_eq_false, not_false_eq_true, hd, hd2, fa]) | (first | refine vIfE_of ?_ ?_ | refine vIfD_of ?_ ?_ | refine vIfQ_of ?_ ?_ | refine vIfV_of ?_ ?_) <;> intro _ | refine And.intro (by omega) ?_ | refine drawn_q ?_ | fail)
  refine vStore_act x w2 (hxi.later S2.later) ?_
  obtain ⟨l3, s3, B3⟩ := actBox w2 x
  have hvl := S2.v.lt
  have hml := S2.m.lt
  generalize w2.alloc (.cells (acC x).toArray 37) = w3 at *
  generalize hka : w2.heap.size = ka at *
  have A3 := actAt B3
  have S3 := S2.next l3
  repeat' (first | (simp (disch := omega) only [push_cast, ↓reduceIte, zA, zG, zB, zH, zI, zC, zJ, zK, zL, zD, zE, zF, zM, zN, zO, zP, zQ, reduceCtorEq, not_true_eq_false, not_false_eq_true, A3.2.2.2.2.2]) | (first | refine vIfE_of ?_ ?_ | refine vIfD_of ?_ ?_ | refine vIfQ_of ?_ ?_ | refine vIfV_of ?_ ?_) <;> intro _ | refine And.intro (by omega) ?_ | refine drawn_q ?_ | fail)
  refine (fits_c x w3 (hxi.later S3.later)).mono ?_
  rintro _ w4 ⟨rfl, l4⟩
  have B4 := B3.chg (Chg.of_later (ks := []) l4) (by simp)
  have S4 := S3.next l4
  obtain ⟨a0, a1, a2, a3, a4, a5⟩ := actAt B4
  have skip : ∀ w', Later w4 w' → Again (fun s : Nat × Nat => [(4, Value.bool false), (9, .int .i64 (s.2 : Int)), (10, .int .i64 (s.1 : Int))]) (fun s w' => s.1 ≤ l.length ∧ s.1 ≤ 80 ∧ s.2 ≤ s.1 ∧ ∃ L, BS w w' bk r bl q n s.2 L) (fun s => l.length - s.1) (l.length - i) ([] : List Deferred) [] (fun j => if j = 4 then .bool false else if j = 9 then .int .i64 (d : Int) else .int .i64 ((i : Int) + 1)) w' := fun w' hl =>
    ⟨rfl, (i + 1, d), ⟨rfl, rfl, by show Value.int .i64 ((i : Int) + 1) = .int .i64 ((i + 1 : Nat) : Int); rw [Int.natCast_add]; rfl, trivial⟩, ⟨by dsimp only; omega, by dsimp only; omega, by dsimp only; omega, L, S4.next hl⟩, by dsimp only; omega⟩
  clear skip
  cases hf : fitB x with
  | false =>
    repeat' (first | (simp (disch := omega) only [push_cast, ↓reduceIte, zA, zG, zB, zH, zI, zC, zJ, zK, zL, zD, zE, zF, zM, zN, zO, zP, zQ, reduceCtorEq, not_true_eq_false, not_false_eq_true, hf]) | (first | refine vIfE_of ?_ ?_ | refine vIfD_of ?_ ?_ | refine vIfQ_of ?_ ?_ | refine vIfV_of ?_ ?_) <;> intro _ | refine And.intro (by omega) ?_ | refine drawn_q ?_ | fail)
    exact ⟨rfl, (i + 1, d), by simp (disch := omega) only [push_cast, ↓reduceIte, zA, zG, zB, zH, zI, zC, zJ, zK, zL, zD, zE, zF, zM, zN, zO, zP, zQ, reduceCtorEq, not_true_eq_false, not_false_eq_true], ⟨by dsimp only; omega, by dsimp only; omega, by dsimp only; omega, L, S4⟩, by dsimp only; omega⟩
  | true =>
  by_cases hk1 : x.kind < 1
  · have hd4 := decide_eq_true hk1
    repeat' (first | (simp (disch := omega) only [push_cast, ↓reduceIte, zA, zG, zB, zH, zI, zC, zJ, zK, zL, zD, zE, zF, zM, zN, zO, zP, zQ, reduceCtorEq, not_true_eq_false, not_false_eq_true, a0, hd4, addr_add_eq, Nat.zero_add]) | (first | refine vIfE_of ?_ ?_ | refine vIfD_of ?_ ?_ | refine vIfQ_of ?_ ?_ | refine vIfV_of ?_ ?_) <;> intro _ | refine And.intro (by omega) ?_ | refine drawn_q ?_ | fail)
    exact ⟨rfl, (i + 1, d), by simp (disch := omega) only [push_cast, ↓reduceIte, zA, zG, zB, zH, zI, zC, zJ, zK, zL, zD, zE, zF, zM, zN, zO, zP, zQ, reduceCtorEq, not_true_eq_false, not_false_eq_true], ⟨by dsimp only; omega, by dsimp only; omega, by dsimp only; omega, L, S4⟩, by dsimp only; omega⟩
  have hd4 := decide_eq_false hk1
  by_cases hk4 : 4 < x.kind
  · have hd5 := decide_eq_true hk4
    repeat' (first | (simp (disch := omega) only [push_cast, ↓reduceIte, zA, zG, zB, zH, zI, zC, zJ, zK, zL, zD, zE, zF, zM, zN, zO, zP, zQ, reduceCtorEq, not_true_eq_false, not_false_eq_true, a0, hd4, hd5, addr_add_eq, Nat.zero_add]) | (first | refine vIfE_of ?_ ?_ | refine vIfD_of ?_ ?_ | refine vIfQ_of ?_ ?_ | refine vIfV_of ?_ ?_) <;> intro _ | refine And.intro (by omega) ?_ | refine drawn_q ?_ | fail)
    exact ⟨rfl, (i + 1, d), by simp (disch := omega) only [push_cast, ↓reduceIte, zA, zG, zB, zH, zI, zC, zJ, zK, zL, zD, zE, zF, zM, zN, zO, zP, zQ, reduceCtorEq, not_true_eq_false, not_false_eq_true], ⟨by dsimp only; omega, by dsimp only; omega, by dsimp only; omega, L, S4⟩, by dsimp only; omega⟩
  have hd5 := decide_eq_false hk4
  repeat' (first | (simp (disch := omega) only [push_cast, ↓reduceIte, zA, zG, zB, zH, zI, zC, zJ, zK, zL, zD, zE, zF, zM, zN, zO, zP, zQ, reduceCtorEq, not_true_eq_false, not_false_eq_true, a0, hd4, hd5, addr_add_eq, Nat.zero_add]) | (first | refine vIfE_of ?_ ?_ | refine vIfD_of ?_ ?_ | refine vIfQ_of ?_ ?_ | refine vIfV_of ?_ ?_) <;> intro _ | refine And.intro (by omega) ?_ | refine drawn_q ?_ | fail)
  refine (copy_s bl q _ w4 S4.m).mono ?_
  rintro _ w5 ⟨⟨bx, rx, rfl, hbx, hrx, X5⟩, l5⟩
  have B5 := B4.chg (Chg.of_later (ks := []) l5) (by simp)
  have S5 := S4.next l5
  have hsz4 := S4.v.lt
  have hszm := S4.m.lt
  obtain ⟨b0, b1, b2, b3, b4, b5⟩ := actAt B5
  repeat' (first | (simp (disch := omega) only [push_cast, ↓reduceIte, zA, zG, zB, zH, zI, zC, zJ, zK, zL, zD, zE, zF, zM, zN, zO, zP, zQ, reduceCtorEq, not_true_eq_false, not_false_eq_true, b5]) | (first | refine vIfE_of ?_ ?_ | refine vIfD_of ?_ ?_ | refine vIfQ_of ?_ ?_ | refine vIfV_of ?_ ?_) <;> intro _ | refine And.intro (by omega) ?_ | refine drawn_q ?_ | fail)
  have hwx : w.heap.size ≤ bx := Nat.le_trans S4.later.size hbx
  refine (do_c x bx rx _ w5 X5 S5.good (hxi.later S5.later) hf (inB_of (w1 := w) hxi.sl hwx)).mono ?_
  rintro _ w6 ⟨rfl, _, c6⟩
  have l46 : Later w4 w6 := chg_later l5 c6 hbx hrx
  have B6 := B4.chg (Chg.of_later (ks := []) l46) (by simp)
  have S6 := S4.next l46
  have hbn := aDo_burn x (by omega) L (fz n d)
  have hfz := brn_fz (n := n) (d := d)
  have hmG := aDo_good S6.good x hxi.n.2
  by_cases h31 : (aDo x ⟨5000, -1, L⟩).1 = 31
  · have hd6 := decide_eq_true h31
    repeat' (first | (simp (disch := omega) only [push_cast, ↓reduceIte, zA, zG, zB, zH, zI, zC, zJ, zK, zL, zD, zE, zF, zM, zN, zO, zP, zQ, reduceCtorEq, not_true_eq_false, not_false_eq_true, hd6]) | (first | refine vIfE_of ?_ ?_ | refine vIfD_of ?_ ?_ | refine vIfQ_of ?_ ?_ | refine vIfV_of ?_ ?_) <;> intro _ | refine And.intro (by omega) ?_ | refine drawn_q ?_ | fail)
    exact ⟨rfl, (i + 1, d), by simp (disch := omega) only [push_cast, ↓reduceIte, zA, zG, zB, zH, zI, zC, zJ, zK, zL, zD, zE, zF, zM, zN, zO, zP, zQ, reduceCtorEq, not_true_eq_false, not_false_eq_true], ⟨by dsimp only; omega, by dsimp only; omega, by dsimp only; omega, L, S6⟩, by dsimp only; omega⟩
  have hd6 := decide_eq_false h31
  obtain ⟨p1, p2, p3, p4⟩ := hbn h31
  obtain ⟨c0, c1, c2, c3, c4, c5⟩ := actAt B6
  repeat' (first | (simp (disch := omega) only [push_cast, ↓reduceIte, zA, zG, zB, zH, zI, zC, zJ, zK, zL, zD, zE, zF, zM, zN, zO, zP, zQ, reduceCtorEq, not_true_eq_false, not_false_eq_true, hd6, c5]) | (first | refine vIfE_of ?_ ?_ | refine vIfD_of ?_ ?_ | refine vIfQ_of ?_ ?_ | refine vIfV_of ?_ ?_) <;> intro _ | refine And.intro (by omega) ?_ | refine drawn_q ?_ | fail)
  refine (do_c x bk r _ w6 S6.v (good_f S6.good (fz_rng n d hnn.2)) (hxi.later S6.later) hf (inB_of (w1 := w) hxi.sl hbk)).mono ?_
  rintro _ w7 ⟨rfl, V7, c7⟩
  have l7 := chg_later S6.later c7 hbk hr
  have M7 := S6.m.other S6.v c7 (by omega) (by omega)
  have B7 := B6.chg c7 (by simp; omega)
  rw [hfz] at p1 p2
  by_cases hge : n ≤ d + 1
  · have hd7 : decide ((n : Int) ≤ (d : Int) + 1) = true := decide_eq_true (by omega)
    have hz : fz n (d + 1) = 0 := by unfold fz; omega
    rw [p1 hz] at V7 ⊢
    dsimp only at V7
    rw [← hz] at V7
    have S7 : BS w w7 bk r bl q n (d + 1) L := ⟨l7, V7, M7, S6.good⟩
    have e1 : decide ((272 : Int) = 272) = true := rfl
    repeat' (first | (simp (disch := omega) only [push_cast, ↓reduceIte, zA, zG, zB, zH, zI, zC, zJ, zK, zL, zD, zE, zF, zM, zN, zO, zP, zQ, reduceCtorEq, not_true_eq_false, not_false_eq_true, hd7, e1]) | (first | refine vIfE_of ?_ ?_ | refine vIfD_of ?_ ?_ | refine vIfQ_of ?_ ?_ | refine vIfV_of ?_ ?_) <;> intro _ | refine And.intro (by omega) ?_ | refine drawn_q ?_ | fail)
    refine (broken_s bk r _ w7 V7).mono ?_
    rintro _ w0 ⟨rfl, h0⟩
    obtain rfl := h0.symm
    have e2 : decide (fz n (d + 1) = 0) = true := decide_eq_true hz
    dsimp only
    rw [e2]
    repeat' (first | (simp (disch := omega) only [push_cast, ↓reduceIte, zA, zG, zB, zH, zI, zC, zJ, zK, zL, zD, zE, zF, zM, zN, zO, zP, zQ, reduceCtorEq, not_true_eq_false, not_false_eq_true]) | (first | refine vIfE_of ?_ ?_ | refine vIfD_of ?_ ?_ | refine vIfQ_of ?_ ?_ | refine vIfV_of ?_ ?_) <;> intro _ | refine And.intro (by omega) ?_ | refine drawn_q ?_ | fail)
    exact ⟨rfl, (i + 1, d + 1), by simp (disch := omega) only [push_cast, ↓reduceIte, zA, zG, zB, zH, zI, zC, zJ, zK, zL, zD, zE, zF, zM, zN, zO, zP, zQ, reduceCtorEq, not_true_eq_false, not_false_eq_true], ⟨by dsimp only; omega, by dsimp only; omega, by dsimp only; omega, L, S7⟩, by dsimp only; omega⟩
  · have hd7 : decide ((n : Int) ≤ (d : Int) + 1) = false := decide_eq_false (by omega)
    have hz : fz n (d + 1) ≠ 0 := by unfold fz; omega
    rw [p2 hz] at V7 ⊢
    dsimp only at V7 ⊢
    obtain ⟨c0, c1, c2, c3, c4, c5⟩ := actAt B7
    repeat' (first | (simp (disch := omega) only [push_cast, ↓reduceIte, zA, zG, zB, zH, zI, zC, zJ, zK, zL, zD, zE, zF, zM, zN, zO, zP, zQ, reduceCtorEq, not_true_eq_false, not_false_eq_true, hd7, c5]) | (first | refine vIfE_of ?_ ?_ | refine vIfD_of ?_ ?_ | refine vIfQ_of ?_ ?_ | refine vIfV_of ?_ ?_) <;> intro _ | refine And.intro (by omega) ?_ | refine drawn_q ?_ | fail)
    refine (do_c x bl q _ w7 M7 S6.good (hxi.later l7) hf (inB_of (w1 := w) hxi.sl hwbl)).mono ?_
    rintro _ w8 ⟨rfl, M8, c8⟩
    have l8 := chg_later l7 c8 hwbl hwq
    have V8 := V7.other M7 c8 hbb hrq
    have hG8 := hmG
    rw [p3] at M8 hG8
    have S8 : BS w w8 bk r bl q n (d + 1) (aDo x ⟨5000, -1, L⟩).2.L := ⟨l8, V8, M8, hG8⟩
    have e1 : decide ((aDo x ⟨5000, -1, L⟩).1 = (aDo x ⟨5000, -1, L⟩).1) = true := decide_eq_true rfl
    repeat' (first | (simp (disch := omega) only [push_cast, ↓reduceIte, zA, zG, zB, zH, zI, zC, zJ, zK, zL, zD, zE, zF, zM, zN, zO, zP, zQ, reduceCtorEq, not_true_eq_false, not_false_eq_true, e1]) | (first | refine vIfE_of ?_ ?_ | refine vIfD_of ?_ ?_ | refine vIfQ_of ?_ ?_ | refine vIfV_of ?_ ?_) <;> intro _ | refine And.intro (by omega) ?_ | refine drawn_q ?_ | fail)
    refine (broken_s bk r _ w8 V8).mono ?_
    rintro _ w0 ⟨rfl, h0⟩
    obtain rfl := h0.symm
    have e2 : decide (fz n (d + 1) = 0) = false := decide_eq_false hz
    dsimp only
    rw [e2]
    repeat' (first | (simp (disch := omega) only [push_cast, ↓reduceIte, zA, zG, zB, zH, zI, zC, zJ, zK, zL, zD, zE, zF, zM, zN, zO, zP, zQ, reduceCtorEq, not_true_eq_false, not_false_eq_true]) | (first | refine vIfE_of ?_ ?_ | refine vIfD_of ?_ ?_ | refine vIfQ_of ?_ ?_ | refine vIfV_of ?_ ?_) <;> intro _ | refine And.intro (by omega) ?_ | refine drawn_q ?_ | fail)
    exact ⟨rfl, (i + 1, d + 1), by simp (disch := omega) only [push_cast, ↓reduceIte, zA, zG, zB, zH, zI, zC, zJ, zK, zL, zD, zE, zF, zM, zN, zO, zP, zQ, reduceCtorEq, not_true_eq_false, not_false_eq_true], ⟨by dsimp only; omega, by dsimp only; omega, by dsimp only; omega, _, S8⟩, by dsimp only; omega⟩
theorem own : ownKnob Try.prog.godebug = none := by kernel_rfl
theorem lifted (os : Os) (started : os.Started) (H : Type) (enc : TypeId × Value → H) :
    ReturnsInHanded {} Try.checked os 6 .any (Rows.vaultBurntSpec.pre6 enc Try.prog Try.f6 Rows.vaultBurntRow.domain false) (Rows.vaultBurntSpec.post enc Try.prog Try.f6 false true false false) := by
  refine lifted_later (C := Try.checked) own started (by kernel_rfl) Try.func6 hb6
    (ChangeSpec.witness6 (enc := enc) (C := Try.checked) false ⟨#[], #[.int .i64 0, .slice none 0 0], []⟩ 6 (by kernel_rfl) (by kernel_rfl) (by kernel_rfl) (by kernel_rfl))
    (by kernel_rfl) (list_all (by kernel_rfl)) (by kernel_rfl) Try.underlying4 rfl ?_ ?_
  · intro ds h
    have h : ds.length = 2 := h
    match ds, h with
    | [_, _], _ => rfl
  · intro W base args ds p hval0 hA0
    have hval : ∀ (j : Nat) t v, Try.f6.params[j]? = some t → args[j]? = some v → Value.okWide Try.prog W .any base t v := hval0
    have hA : DataW.TrodAll enc Try.prog W 0 (fun _ => true) true Try.f6.params.toList args.toList ds p := hA0
    rw [Try.params6] at hA hval
    obtain ⟨v0, vs0, d0, ds0, p0, q0, hargs, rfl, rfl, h0, r0⟩ := trodAll_cons hA
    obtain ⟨v1, vs1, d1, ds1, p1, q1, rfl, rfl, rfl, h1, r1⟩ := trodAll_cons r0
    obtain ⟨rfl, rfl, rfl⟩ := trodAll_nil r1
    obtain rfl : args = #[v0, v1] := by cases args; simp_all
    obtain ⟨a0, rfl, rfl, rfl, w0⟩ := open_int Try.underlying3 (hval 0 3 v0 rfl rfl) h0
    obtain ⟨a1, w1⟩ := open_acts (hval 1 35 v1 rfl rfl) h1
    exact law_c a0 v1 a1 W (i64_of_wf w0) w1.1 w1.2
theorem over : Rows.vaultBurntRow.holds Try.pinned (OpenSpec.ofChange Rows.vaultBurntSpec) :=
  OpenClaim.holds_of_wide 6 Try.f6 rfl rfl rfl rfl rfl rfl rfl ⟨rfl, rfl, rfl, rfl, rfl⟩ rfl rfl rfl rfl rfl (by kernel_rfl) Try.func6 (by kernel_rfl)
    (of_decide_eq_true (by kernel_rfl)) (by unfold Func.isWrapper; first | (rw [if_pos (by decide +kernel)]; kernel_rfl) | (rw [if_neg (by decide +kernel)]; exact ⟨rfl, rfl⟩))
    (fun os started H enc _ => lifted os started H enc)
/-- The statement. -/
theorem proved : Rows.VaultBurntSaid :=
  over
end Go.Proofs.Ytmfcnooleejgmaa.vaultBurnt
