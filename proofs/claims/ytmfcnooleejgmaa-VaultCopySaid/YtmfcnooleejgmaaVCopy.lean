/- VaultCopy holds for every input: what is done to a copy of a vault, and to what a crash leaves, does not touch the vault; what is read is its owner's. -/
import Derived.Test.YtmfcnooleejgmaaRows
import Derived.Test.YtmfcnooleejgmaaPartG
set_option linter.all false
open Nat renaming reduceEqDiff → zA, reducePow → zB, reduceMul → zC, reduceAdd → zD, reduceSub → zE, reduceLeDiff → zF
open Int renaming reduceToNat → zG, reducePow → zH, reduceNeg → zI, reduceMul → zJ, reduceAdd → zK, reduceSub → zL, reduceLT → zM, reduceLE → zN, reduceEq → zO, reduceMod → zP, reduceDiv → zQ
set_option linter.unusedSimpArgs false
namespace Go.Proofs.Ytmfcnooleejgmaa.vaultCopy
open Go.Vc Go.Vlt Go.Key Go.ChangeShapes Go.WideShapes Go.ChangeAt Go.RowKit
set_option maxRecDepth 100000
theorem chg_later2 {w w1 w2 : World} {bk r : Nat} (h : Later w w1) (c : Chg w1 w2 [bk, r]) (hb : w.heap.size ≤ bk) (hr : w.heap.size ≤ r) : Later w w2 := chg_later h c hb hr
/-- What was read of the first k files. -/
def was (L : List Fl) (k : Nat) : List ByteArray := (L.take k).map fun f : Fl => Go.Vc.strOf f.b
theorem was_snoc {L : List Fl} {k : Nat} (h : k < L.length) : was L (k + 1) = was L k ++ [Go.Vc.strOf (L[k]).b] := by
  unfold was
  rw [take_snoc L k h, List.map_append]; rfl
theorem was_len {L : List Fl} {k : Nat} (h : k ≤ L.length) : (was L k).length = k := by unfold was; simp; omega
theorem was_at {L : List Fl} {k : Nat} (h : k < L.length) (h' : k < (was L L.length).length) : (was L L.length)[k] = Go.Vc.strOf (L[k]).b := by simp [was]
theorem u8_wrap (n : Nat) : Value.int .u8 (IntKind.u8.wrap (n : Int)) = u8v (UInt8.ofNat n) := by
  unfold u8v
  rw [UInt8.toNat_ofNat', IntKind.wrap_u8]; congr 1
structure CS (w w' : World) (bk r : Nat) (s : Vst) : Prop where
  later : Later w w'
  v : VS w' bk r s
theorem CS.next {w w1 w2 : World} {bk r : Nat} {s : Vst} (h : CS w w1 bk r s) (hl : Later w1 w2) : CS w w2 bk r s := ⟨h.later.trans hl, h.v.later hl⟩
set_option maxHeartbeats 1000000 in
theorem law_c (sv : Value) (l : List ActD) (x0 : ActD) (w : World) (hs : RecS acC 5 w sv l) (hx : ∀ x ∈ l, x.Ok w) (hx0 : x0.Ok w) : FnC Try.prog 8 #[sv, .agg (acC x0).toArray] w fun v w' => v = .bool true ∧ Later w w' := by
  obtain ⟨so, sc, rfl, hs1, hs2⟩ := RecS.slice hs
  refine enter8 _ _ ?_
  unfold B8
  have eca : (Value.agg (acC x0).toArray).cells = (acC x0).toArray := rfl
  obtain ⟨l0, s0', B0⟩ := actBox w x0
  repeat' (first | (simp (disch := omega) only [push_cast, ↓reduceIte, zA, zG, zB, zH, zI, zC, zJ, zK, zL, zD, zE, zF, zM, zN, zO, zP, zQ, reduceCtorEq, not_true_eq_false, not_false_eq_true, eca]) | (first | refine vIfE_of ?_ ?_ | refine vIfD_of ?_ ?_ | refine vIfQ_of ?_ ?_ | refine vIfV_of ?_ ?_) <;> intro _ | refine And.intro (by omega) ?_ | refine drawn_q ?_ | fail)
  generalize w.alloc (.cells (acC x0).toArray 37) = w0 at *
  refine (new_s 5000 w0 (by omega)).mono ?_
  rintro _ w1 ⟨⟨_, hno⟩ | ⟨_, _, bk, r, hbk0, hr0, rfl, V1⟩, l1⟩
  · exact absurd (by omega) hno
  have hbk : w.heap.size ≤ bk := Nat.le_trans l0.size hbk0
  have hr : w.heap.size ≤ r := Nat.le_trans l0.size hr0
  have G1 : Good (s0 5000) := s0_good (by omega)
  have B1 := B0.chg (Chg.of_later (ks := []) l1) (by simp)
  have S1 : CS w w1 bk r (s0 5000) := ⟨l0.trans l1, V1⟩
  clear l1 V1 B0
  repeat' (first | (simp (disch := omega) only [push_cast, ↓reduceIte, zA, zG, zB, zH, zI, zC, zJ, zK, zL, zD, zE, zF, zM, zN, zO, zP, zQ, reduceCtorEq, not_true_eq_false, not_false_eq_true]) | (first | refine vIfE_of ?_ ?_ | refine vIfD_of ?_ ?_ | refine vIfQ_of ?_ ?_ | refine vIfV_of ?_ ?_) <;> intro _ | refine And.intro (by omega) ?_ | refine drawn_q ?_ | fail)
  refine vc_loop W8_0 (fun i : Nat => [(7, .int .i64 (i : Int))]) (fun i w' => i ≤ l.length ∧ Blk w' w.heap.size (acC x0).toArray 37 ∧ ∃ s, CS w w' bk r s ∧ Good s ∧ s.room = 5000) (fun i => l.length - i) 0 (by decide) ?_ ?_ ?_
  · simp (disch := omega) only [push_cast, ↓reduceIte, zA, zG, zB, zH, zI, zC, zJ, zK, zL, zD, zE, zF, zM, zN, zO, zP, zQ, reduceCtorEq, not_true_eq_false, not_false_eq_true]
    try rfl
  · exact ⟨Nat.zero_le _, B1, _, S1, G1, rfl⟩
  clear B1 S1 G1
  rintro i uu w2 ⟨hi, B2, s, S2, G2, hsr⟩
  by_cases h1 : i < l.length
  case neg =>
    have hd : decide ((i : Int) < (l.length : Int)) = false := decide_eq_false (by omega)
    repeat' (first | (simp (disch := omega) only [push_cast, ↓reduceIte, zA, zG, zB, zH, zI, zC, zJ, zK, zL, zD, zE, zF, zM, zN, zO, zP, zQ, reduceCtorEq, not_true_eq_false, not_false_eq_true, hd]) | (first | refine vIfE_of ?_ ?_ | refine vIfD_of ?_ ?_ | refine vIfQ_of ?_ ?_ | refine vIfV_of ?_ ?_) <;> intro _ | refine And.intro (by omega) ?_ | refine drawn_q ?_ | fail)
    have hlenL := G2.len
    refine (list_s bk r s w2 S2.v G2).mono ?_
    rintro lv w3 ⟨hO, l3⟩
    obtain ⟨lo, lc, rfl⟩ := OwnN.slice hO
    rw [List.length_map] at hO ⊢
    have hOs : StS w3 (.slice lo s.L.length lc) (s.L.map Fl.name) := OwnN.st hO
    have S3 := S2.next l3
    have B3 := B2.chg (Chg.of_later (ks := []) l3) (by simp)
    clear hO B2 S2 l3
    repeat' (first | (simp (disch := omega) only [push_cast, ↓reduceIte, zA, zG, zB, zH, zI, zC, zJ, zK, zL, zD, zE, zF, zM, zN, zO, zP, zQ, reduceCtorEq, not_true_eq_false, not_false_eq_true]) | (first | refine vIfE_of ?_ ?_ | refine vIfD_of ?_ ?_ | refine vIfQ_of ?_ ?_ | refine vIfV_of ?_ ?_) <;> intro _ | refine And.intro (by omega) ?_ | refine drawn_q ?_ | fail)
    refine (free_s bk r s w3 S3.v G2).mono ?_
    rintro _ w4 ⟨rfl, l4⟩
    have S4 := S3.next l4
    have B4 := B3.chg (Chg.of_later (ks := []) l4) (by simp)
    have hOs := Sl.later hOs l4
    clear S3 B3 l4
    repeat' (first | (simp (disch := omega) only [push_cast, ↓reduceIte, zA, zG, zB, zH, zI, zC, zJ, zK, zL, zD, zE, zF, zM, zN, zO, zP, zQ, reduceCtorEq, not_true_eq_false, not_false_eq_true]) | (first | refine vIfE_of ?_ ?_ | refine vIfD_of ?_ ?_ | refine vIfQ_of ?_ ?_ | refine vIfV_of ?_ ?_) <;> intro _ | refine And.intro (by omega) ?_ | refine drawn_q ?_ | fail)
    refine vc_loop W8_1 (fun t : Nat × Value => [(11, t.2), (12, .int .i64 (t.1 : Int))]) (fun t w' => t.1 ≤ s.L.length ∧ Later w4 w' ∧ OwnN w' w4.heap.size t.2 (was s.L t.1)) (fun t => s.L.length - t.1) (0, .slice none 0 0) (by decide) ?_ ?_ ?_
    · simp (disch := omega) only [push_cast, ↓reduceIte, zA, zG, zB, zH, zI, zC, zJ, zK, zL, zD, zE, zF, zM, zN, zO, zP, zQ, reduceCtorEq, not_true_eq_false, not_false_eq_true]
      try rfl
    · exact ⟨Nat.zero_le _, Later.refl _, own_nil _ _ _ _⟩
    rintro ⟨k, wv⟩ u2 w5 ⟨hk, l5, hW⟩
    dsimp only at hk hW
    obtain ⟨wo, wc, rfl⟩ := OwnN.slice hW
    rw [was_len hk] at hW ⊢
    have hOs5 := Sl.later hOs l5
    by_cases hkl : k < s.L.length
    · have hd5 : decide ((k : Int) < (s.L.length : Int)) = true := decide_eq_true (by omega)
      obtain ⟨la, rfl⟩ := Sl.some hOs5 (i := k) (by simpa using hkl)
      have hc : w5.cell? (la.add k) = some (.string (s.L[k]).name) := Sl.at hOs5 (by simp [hkl])
      have hob := oB_at G2.srd hkl
      have hsn := was_snoc hkl
      repeat' (first | (simp (disch := omega) only [push_cast, ↓reduceIte, zA, zG, zB, zH, zI, zC, zJ, zK, zL, zD, zE, zF, zM, zN, zO, zP, zQ, reduceCtorEq, not_true_eq_false, not_false_eq_true, hd5, hc]) | (first | refine vIfE_of ?_ ?_ | refine vIfD_of ?_ ?_ | refine vIfQ_of ?_ ?_ | refine vIfV_of ?_ ?_) <;> intro _ | refine And.intro (by omega) ?_ | refine drawn_q ?_ | fail)
      refine (read_s bk r s _ w5 (S4.v.later l5) G2).mono ?_
      rintro _ w6 ⟨⟨y, rfl, hy⟩, l6⟩
      rw [hob] at hy
      obtain ⟨yo, yc, rfl⟩ := hy.slice
      have hblen : (s.L[k]).b.length ≤ 16777216 := by
        have h1 := oB_le (k := (s.L[k]).name) (L := s.L)
        rw [hob] at h1
        have := G2.tot
        omega
      generalize (s.L[k]).b = bb at *
      have hW6 := own_later hW l6
      repeat' (first | (simp (disch := omega) only [push_cast, ↓reduceIte, zA, zG, zB, zH, zI, zC, zJ, zK, zL, zD, zE, zF, zM, zN, zO, zP, zQ, reduceCtorEq, not_true_eq_false, not_false_eq_true]) | (first | refine vIfE_of ?_ ?_ | refine vIfD_of ?_ ?_ | refine vIfQ_of ?_ ?_ | refine vIfV_of ?_ ?_) <;> intro _ | refine And.intro (by omega) ?_ | refine drawn_q ?_ | fail)
      refine vConv_bytes Try.underlying22 Try.underlying9 Try.underlying5 hy.sl ?_
      repeat' (first | (simp (disch := omega) only [push_cast, ↓reduceIte, zA, zG, zB, zH, zI, zC, zJ, zK, zL, zD, zE, zF, zM, zN, zO, zP, zQ, reduceCtorEq, not_true_eq_false, not_false_eq_true]) | (first | refine vIfE_of ?_ ?_ | refine vIfD_of ?_ ?_ | refine vIfQ_of ?_ ?_ | refine vIfV_of ?_ ?_) <;> intro _ | refine And.intro (by omega) ?_ | refine drawn_q ?_ | fail)
      have hlw := was_len hk
      refine vAppend_own Try.underlying40 ti9 rfl (by decide) (own_alloc hW6 _) (Sl.one w6 (.string (Go.Vc.strOf bb)) 9) (by simp [Value.oneCell']) (by unfold maxLen; simp only [List.length_cons, List.length_nil]; omega) (by simp only [List.length_cons, List.length_nil]; omega) (by rw [World.size_alloc]; have := (l5.trans l6).size; omega) ?_
      intro v' w7 ho hg2 _
      have la6 := later_alloc w6 (.cells #[.string (Go.Vc.strOf bb)] 9)
      have t6 := own_alloc hW6 (.cells #[.string (Go.Vc.strOf bb)] 9)
      have hy7 : OwnB w7 w5.heap.size 5 (.slice yo bb.length yc) bb := own_grown_ty (own_later hy la6) t6 (by decide) hg2
      have l47 : Later w4 w7 := ((l5.trans l6).trans la6).appended t6 (Nat.le_refl _) hg2
      have ho : OwnN w7 w4.heap.size v' (was s.L (k + 1)) := by rw [hsn]; simpa [OwnN, hlw] using ho
      obtain ⟨o2, c2, rfl⟩ := OwnN.slice ho
      clear la6 t6 hg2 hW6 hW
      repeat' (first | (simp (disch := omega) only [push_cast, ↓reduceIte, zA, zG, zB, zH, zI, zC, zJ, zK, zL, zD, zE, zF, zM, zN, zO, zP, zQ, reduceCtorEq, not_true_eq_false, not_false_eq_true]) | (first | refine vIfE_of ?_ ?_ | refine vIfD_of ?_ ?_ | refine vIfQ_of ?_ ?_ | refine vIfV_of ?_ ?_) <;> intro _ | refine And.intro (by omega) ?_ | refine drawn_q ?_ | fail)
      refine vc_loop W8_2 (fun j : Nat => [(15, .int .i64 (j : Int))])
        (fun j w' => j ≤ bb.length ∧ Later w4 w' ∧ OwnN w' w4.heap.size (.slice o2 (was s.L (k + 1)).length c2) (was s.L (k + 1)) ∧ ∃ q, q.length = bb.length ∧ OwnB w' w5.heap.size 5 (.slice yo bb.length yc) q) (fun j => bb.length - j) 0 (by decide) ?_ ?_ ?_
      · simp (disch := omega) only [push_cast, ↓reduceIte, zA, zG, zB, zH, zI, zC, zJ, zK, zL, zD, zE, zF, zM, zN, zO, zP, zQ, reduceCtorEq, not_true_eq_false, not_false_eq_true]
        try rfl
      · exact ⟨Nat.zero_le _, l47, ho, bb, rfl, hy7⟩
      rintro j u3 w8 ⟨hj, l48, hW8, q, hq, hob8⟩
      have hos := hob8.sl
      unfold OwnB at hob8
      rw [hq] at hob8
      by_cases hjl : j < bb.length
      · have hd6 : decide ((j : Int) < (bb.length : Int)) = true := decide_eq_true (by omega)
        have hjq : j < q.length := by omega
        obtain ⟨ap, rfl⟩ := hos.some hjq
        obtain ⟨kp, cs, rfl, hkp, hkb⟩ := own_blk' hob8
        have c0 := hos.at8 hjq
        rw [addr_add_eq, Nat.zero_add] at c0
        obtain ⟨ho5, hce, hfz⟩ := own_set hob8 (i := j) hjl (.int .u8 (IntKind.u8.wrap ((q[j].toNat : Int) + 1)))
        have e1 : ((q[j].toNat : Int) + 1) = ((q[j].toNat + 1 : Nat) : Int) := by omega
        have g5 := chg_setCell (i := j) w8 (ks := [kp]) (k := kp) (by simp) (.int .u8 (IntKind.u8.wrap ((q[j].toNat : Int) + 1)))
        have hq5 : (q.map u8v).set j (.int .u8 (IntKind.u8.wrap ((q[j].toNat : Int) + 1))) = (q.set j (UInt8.ofNat (q[j].toNat + 1))).map u8v := by
          rw [List.map_set, e1, u8_wrap]
        rw [hq5] at ho5
        have hW9 := own_chg_ty hW8 hkb.1 (by decide) g5
        have l49 := g5.later l48 (by have := l5.size; simp; omega)
        repeat' (first | (simp (disch := omega) only [push_cast, ↓reduceIte, zA, zG, zB, zH, zI, zC, zJ, zK, zL, zD, zE, zF, zM, zN, zO, zP, zQ, reduceCtorEq, not_true_eq_false, not_false_eq_true, hd6, c0, addr_add_eq, Nat.zero_add, hfz]) | (first | refine vIfE_of ?_ ?_ | refine vIfD_of ?_ ?_ | refine vIfQ_of ?_ ?_ | refine vIfV_of ?_ ?_) <;> intro _ | refine And.intro (by omega) ?_ | refine drawn_q ?_ | fail)
        refine ⟨rfl, j + 1, by simp (disch := omega) only [push_cast, ↓reduceIte, zA, zG, zB, zH, zI, zC, zJ, zK, zL, zD, zE, zF, zM, zN, zO, zP, zQ, reduceCtorEq, not_true_eq_false, not_false_eq_true], ⟨by omega, l49, hW9, q.set j (UInt8.ofNat (q[j].toNat + 1)), by simp [hq], ?_⟩, by dsimp only; omega⟩
        unfold OwnB
        rw [List.length_set, hq]; exact ho5
      · have hd6 : decide ((j : Int) < (bb.length : Int)) = false := decide_eq_false (by omega)
        repeat' (first | (simp (disch := omega) only [push_cast, ↓reduceIte, zA, zG, zB, zH, zI, zC, zJ, zK, zL, zD, zE, zF, zM, zN, zO, zP, zQ, reduceCtorEq, not_true_eq_false, not_false_eq_true, hd6]) | (first | refine vIfE_of ?_ ?_ | refine vIfD_of ?_ ?_ | refine vIfQ_of ?_ ?_ | refine vIfV_of ?_ ?_) <;> intro _ | refine And.intro (by omega) ?_ | refine drawn_q ?_ | fail)
        exact ⟨rfl, (k + 1, .slice o2 (was s.L (k + 1)).length c2), by simp (disch := omega) only [push_cast, ↓reduceIte, zA, zG, zB, zH, zI, zC, zJ, zK, zL, zD, zE, zF, zM, zN, zO, zP, zQ, reduceCtorEq, not_true_eq_false, not_false_eq_true], ⟨by dsimp only; omega, l48, hW8⟩, by dsimp only; omega⟩
    · have hkk : k = s.L.length := by omega
      subst hkk
      have hd5 : decide ((s.L.length : Int) < (s.L.length : Int)) = false := decide_eq_false (by omega)
      have S5 := S4.next l5
      have B5 := B4.chg (Chg.of_later (ks := []) l5) (by simp)
      have hWs : StS w5 (.slice wo s.L.length wc) (was s.L s.L.length) := OwnN.st hW
      clear hW S4 B4 hOs l5
      repeat' (first | (simp (disch := omega) only [push_cast, ↓reduceIte, zA, zG, zB, zH, zI, zC, zJ, zK, zL, zD, zE, zF, zM, zN, zO, zP, zQ, reduceCtorEq, not_true_eq_false, not_false_eq_true, hd5]) | (first | refine vIfE_of ?_ ?_ | refine vIfD_of ?_ ?_ | refine vIfQ_of ?_ ?_ | refine vIfV_of ?_ ?_) <;> intro _ | refine And.intro (by omega) ?_ | refine drawn_q ?_ | fail)
      refine (copy_s bk r s w5 S5.v).mono ?_
      rintro _ w6 ⟨⟨bc, rc, rfl, hbc, hrc, C6⟩, l6⟩
      have S6 := S5.next l6
      have B6 := B5.chg (Chg.of_later (ks := []) l6) (by simp)
      obtain ⟨a0, a1, a2, a3, a4, a5⟩ := actAt B6
      repeat' (first | (simp (disch := omega) only [push_cast, ↓reduceIte, zA, zG, zB, zH, zI, zC, zJ, zK, zL, zD, zE, zF, zM, zN, zO, zP, zQ, reduceCtorEq, not_true_eq_false, not_false_eq_true, a1, addr_add_eq, Nat.zero_add]) | (first | refine vIfE_of ?_ ?_ | refine vIfD_of ?_ ?_ | refine vIfQ_of ?_ ?_ | refine vIfV_of ?_ ?_) <;> intro _ | refine And.intro (by omega) ?_ | refine drawn_q ?_ | fail)
      refine (crash_s bk r s x0.n w6 S6.v G2 hx0.n).mono ?_
      rintro _ w7 ⟨⟨bd, rd, rfl, hbd, hrd, D7⟩, l7⟩
      have S7 := S6.next l7
      have B7 := B6.chg (Chg.of_later (ks := []) l7) (by simp)
      have C7 := C6.later l7
      have hcl := C6.lt
      obtain ⟨a0, a1, a2, a3, a4, a5⟩ := actAt B7
      repeat' (first | (simp (disch := omega) only [push_cast, ↓reduceIte, zA, zG, zB, zH, zI, zC, zJ, zK, zL, zD, zE, zF, zM, zN, zO, zP, zQ, reduceCtorEq, not_true_eq_false, not_false_eq_true, a5]) | (first | refine vIfE_of ?_ ?_ | refine vIfD_of ?_ ?_ | refine vIfQ_of ?_ ?_ | refine vIfV_of ?_ ?_) <;> intro _ | refine And.intro (by omega) ?_ | refine drawn_q ?_ | fail)
      refine (fits_c x0 w7 (hx0.later S7.later)).mono ?_
      rintro _ w8 ⟨rfl, l8⟩
      have S8 := S7.next l8
      have B8 := B7.chg (Chg.of_later (ks := []) l8) (by simp)
      have C8 := C7.later l8
      have D8 := D7.later l8
      have l58 := l6.trans (l7.trans l8)
      have hwc : w.heap.size ≤ bc := Nat.le_trans S5.later.size hbc
      have hwd : w.heap.size ≤ bd := Nat.le_trans S6.later.size hbd
      have hbd5 : w5.heap.size ≤ bd := Nat.le_trans l6.size hbd
      have hrd5 : w5.heap.size ≤ rd := Nat.le_trans l6.size hrd
      have hw5lt := S5.v.lt
      clear S6 S7 B6 B7 C6 C7 D7 l6 l7 l8
      obtain ⟨a0, a1, a2, a3, a4, a5⟩ := actAt B8
      cases hf : fitB x0 with
      | true =>
        repeat' (first | (simp (disch := omega) only [push_cast, ↓reduceIte, zA, zG, zB, zH, zI, zC, zJ, zK, zL, zD, zE, zF, zM, zN, zO, zP, zQ, reduceCtorEq, not_true_eq_false, not_false_eq_true, a5]) | (first | refine vIfE_of ?_ ?_ | refine vIfD_of ?_ ?_ | refine vIfQ_of ?_ ?_ | refine vIfV_of ?_ ?_) <;> intro _ | refine And.intro (by omega) ?_ | refine drawn_q ?_ | fail)
        refine (do_c x0 bc rc s w8 C8 G2 (hx0.later S8.later) hf (inB_of (w1 := w) hx0.sl hwc)).mono ?_
        rintro _ w9 ⟨rfl, C9, c9⟩
        have GC := aDo_good G2 x0 hx0.n.2
        have D9 := D8.other C8 c9 (by omega) (by omega)
        have l59 := chg_later l58 c9 hbc hrc
        have hw5 := S5.later.size
        have hlt5 := B5.lt
        have B9 := B8.chg c9 (by simp; omega)
        obtain ⟨a0, a1, a2, a3, a4, a5⟩ := actAt B9
        repeat' (first | (simp (disch := omega) only [push_cast, ↓reduceIte, zA, zG, zB, zH, zI, zC, zJ, zK, zL, zD, zE, zF, zM, zN, zO, zP, zQ, reduceCtorEq, not_true_eq_false, not_false_eq_true, a5]) | (first | refine vIfE_of ?_ ?_ | refine vIfD_of ?_ ?_ | refine vIfQ_of ?_ ?_ | refine vIfV_of ?_ ?_) <;> intro _ | refine And.intro (by omega) ?_ | refine drawn_q ?_ | fail)
        refine (do_c x0 bd rd _ w9 D9 (aCrash_good G2 x0.n) (hx0.later (S5.later.trans l59)) hf (inB_of (w1 := w) hx0.sl hwd)).mono ?_
        rintro _ w10 ⟨rfl, _, c10⟩
        have C10 := C9.other D9 c10 (by omega) (by omega)
        have l510 := chg_later l59 c10 hbd5 hrd5
        clear C8 D8 C9 D9 c9 c10 B8 B9 l58 l59
        repeat' (first | (simp (disch := omega) only [push_cast, ↓reduceIte, zA, zG, zB, zH, zI, zC, zJ, zK, zL, zD, zE, zF, zM, zN, zO, zP, zQ, reduceCtorEq, not_true_eq_false, not_false_eq_true]) | (first | refine vIfE_of ?_ ?_ | refine vIfD_of ?_ ?_ | refine vIfQ_of ?_ ?_ | refine vIfV_of ?_ ?_) <;> intro _ | refine And.intro (by omega) ?_ | refine drawn_q ?_ | fail)
        refine vConv_const Try.underlying22 Try.underlying5 ?_
        have q10 := later_alloc w10 (.cells #[.int .u8 120] 5 (1, 2))
        have x10 : Sl (w10.alloc (.cells #[.int .u8 120] 5 (1, 2))) (.slice (some ⟨w10.heap.size, 0, none⟩) 1 1) (([120] : List UInt8).map u8v) := Sl.litM w10 _ _ _ (by unfold maxLen; simp)
        have n10 := inB_new (n := 1) (c := 1) C10.lt.1
        generalize w10.alloc (.cells #[.int .u8 120] 5 (1, 2)) = w11 at *
        repeat' (first | (simp (disch := omega) only [push_cast, ↓reduceIte, zA, zG, zB, zH, zI, zC, zJ, zK, zL, zD, zE, zF, zM, zN, zO, zP, zQ, reduceCtorEq, not_true_eq_false, not_false_eq_true]) | (first | refine vIfE_of ?_ ?_ | refine vIfD_of ?_ ?_ | refine vIfQ_of ?_ ?_ | refine vIfV_of ?_ ?_) <;> intro _ | refine And.intro (by omega) ?_ | refine drawn_q ?_ | fail)
        refine (append_s bc rc _ ⟨#[110, 101, 119]⟩ _ [120] w11 (C10.later q10) GC (by decide) x10 n10 (by simp)).mono ?_
        rintro _ w12 ⟨rfl, _, c12⟩
        have l512 := chg_later (l510.trans q10) c12 hbc hrc
        have S12 := S5.next l512
        have hOs12 := Sl.later hOs5 l512
        have hWs12 := Sl.later hWs l512
        clear l510 q10 C10 c12 x10 n10
        repeat' (first | (simp (disch := omega) only [push_cast, ↓reduceIte, zA, zG, zB, zH, zI, zC, zJ, zK, zL, zD, zE, zF, zM, zN, zO, zP, zQ, reduceCtorEq, not_true_eq_false, not_false_eq_true]) | (first | refine vIfE_of ?_ ?_ | refine vIfD_of ?_ ?_ | refine vIfQ_of ?_ ?_ | refine vIfV_of ?_ ?_) <;> intro _ | refine And.intro (by omega) ?_ | refine drawn_q ?_ | fail)
        refine vc_loop W8_3 (fun k : Nat => [(4, .bool false), (19, .int .i64 (k : Int))]) (fun k w' => k ≤ s.L.length ∧ Later w12 w') (fun k => s.L.length - k) 0 (by decide) ?_ ?_ ?_
        · simp (disch := omega) only [push_cast, ↓reduceIte, zA, zG, zB, zH, zI, zC, zJ, zK, zL, zD, zE, zF, zM, zN, zO, zP, zQ, reduceCtorEq, not_true_eq_false, not_false_eq_true]
          try rfl
        · exact ⟨Nat.zero_le _, Later.refl _⟩
        rintro k u5 w13 ⟨hk', l13⟩
        have hO13 := Sl.later hOs12 l13
        have hW13 := Sl.later hWs12 l13
        have S13 := S12.next l13
        by_cases hkl : k < s.L.length
        · have hd7 : decide ((k : Int) < (s.L.length : Int)) = true := decide_eq_true (by omega)
          obtain ⟨la, rfl⟩ := Sl.some hO13 (i := k) (by simpa using hkl)
          obtain ⟨lw, rfl⟩ := Sl.some hW13 (i := k) (by rw [was_len (Nat.le_refl _)]; exact hkl)
          have hc : w13.cell? (la.add k) = some (.string (s.L[k]).name) := Sl.at hO13 (by simp [hkl])
          have hob := oB_at G2.srd hkl
          repeat' (first | (simp (disch := omega) only [push_cast, ↓reduceIte, zA, zG, zB, zH, zI, zC, zJ, zK, zL, zD, zE, zF, zM, zN, zO, zP, zQ, reduceCtorEq, not_true_eq_false, not_false_eq_true, hd7, hc]) | (first | refine vIfE_of ?_ ?_ | refine vIfD_of ?_ ?_ | refine vIfQ_of ?_ ?_ | refine vIfV_of ?_ ?_) <;> intro _ | refine And.intro (by omega) ?_ | refine drawn_q ?_ | fail)
          refine (read_s bk r s _ w13 S13.v G2).mono ?_
          rintro _ w14 ⟨⟨y, rfl, hy⟩, l14⟩
          rw [hob] at hy
          obtain ⟨yo, yc, rfl⟩ := hy.slice
          have hcw : ∀ w', Later w13 w' → w'.cell? (lw.add k) = some (.string (Go.Vc.strOf (s.L[k]).b)) := fun w' hl => by
            have h1 := StS.atS (i := k) (Sl.later hW13 hl) (by rw [was_len (Nat.le_refl _)]; exact hkl)
            rw [was_at hkl] at h1
            exact h1
          have e9 : decide (Go.Vc.strOf (s.L[k]).b = Go.Vc.strOf (s.L[k]).b) = true := decide_eq_true rfl
          have hcw14 := hcw w14 l14
          repeat' (first | (simp (disch := omega) only [push_cast, ↓reduceIte, zA, zG, zB, zH, zI, zC, zJ, zK, zL, zD, zE, zF, zM, zN, zO, zP, zQ, reduceCtorEq, not_true_eq_false, not_false_eq_true]) | (first | refine vIfE_of ?_ ?_ | refine vIfD_of ?_ ?_ | refine vIfQ_of ?_ ?_ | refine vIfV_of ?_ ?_) <;> intro _ | refine And.intro (by omega) ?_ | refine drawn_q ?_ | fail)
          refine qConv_bytes Try.underlying22 Try.underlying9 Try.underlying5 (by simp (disch := omega) only [push_cast, ↓reduceIte, zA, zG, zB, zH, zI, zC, zJ, zK, zL, zD, zE, zF, zM, zN, zO, zP, zQ, reduceCtorEq, not_true_eq_false, not_false_eq_true]) hy.sl ?_
          repeat' (first | (simp (disch := omega) only [push_cast, ↓reduceIte, zA, zG, zB, zH, zI, zC, zJ, zK, zL, zD, zE, zF, zM, zN, zO, zP, zQ, reduceCtorEq, not_true_eq_false, not_false_eq_true, hcw14, e9]) | (first | refine vIfE_of ?_ ?_ | refine vIfD_of ?_ ?_ | refine vIfQ_of ?_ ?_ | refine vIfV_of ?_ ?_) <;> intro _ | refine And.intro (by omega) ?_ | refine drawn_q ?_ | fail)
          exact fun w15 l15 => ⟨rfl, k + 1, by simp (disch := omega) only [push_cast, ↓reduceIte, zA, zG, zB, zH, zI, zC, zJ, zK, zL, zD, zE, zF, zM, zN, zO, zP, zQ, reduceCtorEq, not_true_eq_false, not_false_eq_true], ⟨by omega, l13.trans (l14.trans l15)⟩, by dsimp only; omega⟩
        · have hd7 : decide ((k : Int) < (s.L.length : Int)) = false := decide_eq_false (by omega)
          repeat' (first | (simp (disch := omega) only [push_cast, ↓reduceIte, zA, zG, zB, zH, zI, zC, zJ, zK, zL, zD, zE, zF, zM, zN, zO, zP, zQ, reduceCtorEq, not_true_eq_false, not_false_eq_true, hd7]) | (first | refine vIfE_of ?_ ?_ | refine vIfD_of ?_ ?_ | refine vIfQ_of ?_ ?_ | refine vIfV_of ?_ ?_) <;> intro _ | refine And.intro (by omega) ?_ | refine drawn_q ?_ | fail)
          refine (alive_c w13).mono ?_
          rintro _ w14 ⟨rfl, l14⟩
          have S14 := S13.next l14
          repeat' (first | (simp (disch := omega) only [push_cast, ↓reduceIte, zA, zG, zB, zH, zI, zC, zJ, zK, zL, zD, zE, zF, zM, zN, zO, zP, zQ, reduceCtorEq, not_true_eq_false, not_false_eq_true]) | (first | refine vIfE_of ?_ ?_ | refine vIfD_of ?_ ?_ | refine vIfQ_of ?_ ?_ | refine vIfV_of ?_ ?_) <;> intro _ | refine And.intro (by omega) ?_ | refine drawn_q ?_ | fail)
          refine (free_s bk r s w14 S14.v G2).mono ?_
          rintro _ w15 ⟨rfl, l15⟩
          have S15 := S14.next l15
          have e8 : decide (s.room - tl s.L = s.room - tl s.L) = true := decide_eq_true rfl
          repeat' (first | (simp (disch := omega) only [push_cast, ↓reduceIte, zA, zG, zB, zH, zI, zC, zJ, zK, zL, zD, zE, zF, zM, zN, zO, zP, zQ, reduceCtorEq, not_true_eq_false, not_false_eq_true, e8]) | (first | refine vIfE_of ?_ ?_ | refine vIfD_of ?_ ?_ | refine vIfQ_of ?_ ?_ | refine vIfV_of ?_ ?_) <;> intro _ | refine And.intro (by omega) ?_ | refine drawn_q ?_ | fail)
          refine (list_s bk r s w15 S15.v G2).mono ?_
          rintro lv w16 ⟨hO16, l16⟩
          have hO16s := OwnN.st hO16
          obtain ⟨zo, zc, rfl⟩ := OwnN.slice hO16
          rw [List.length_map] at hO16s ⊢
          repeat' (first | (simp (disch := omega) only [push_cast, ↓reduceIte, zA, zG, zB, zH, zI, zC, zJ, zK, zL, zD, zE, zF, zM, zN, zO, zP, zQ, reduceCtorEq, not_true_eq_false, not_false_eq_true]) | (first | refine vIfE_of ?_ ?_ | refine vIfD_of ?_ ?_ | refine vIfQ_of ?_ ?_ | refine vIfV_of ?_ ?_) <;> intro _ | refine And.intro (by omega) ?_ | refine drawn_q ?_ | fail)
          refine (texts_c _ _ _ _ w16 hO16s (Sl.later hO13 (l14.trans (l15.trans l16)))).mono ?_
          rintro _ w17 ⟨rfl, l17⟩
          have et : decide (s.L.map Fl.name = s.L.map Fl.name) = true := decide_eq_true rfl
          rw [et]
          repeat' (first | (simp (disch := omega) only [push_cast, ↓reduceIte, zA, zG, zB, zH, zI, zC, zJ, zK, zL, zD, zE, zF, zM, zN, zO, zP, zQ, reduceCtorEq, not_true_eq_false, not_false_eq_true]) | (first | refine vIfE_of ?_ ?_ | refine vIfD_of ?_ ?_ | refine vIfQ_of ?_ ?_ | refine vIfV_of ?_ ?_) <;> intro _ | refine And.intro (by omega) ?_ | refine drawn_q ?_ | fail)
          first | exact ⟨rfl, ((S15.later.trans l16).trans l17)⟩ | exact ((S15.later.trans l16).trans l17)
      | false =>
        have C10 := C8
        have GC := G2
        have l510 := l58
        clear C8 D8 l58
        repeat' (first | (simp (disch := omega) only [push_cast, ↓reduceIte, zA, zG, zB, zH, zI, zC, zJ, zK, zL, zD, zE, zF, zM, zN, zO, zP, zQ, reduceCtorEq, not_true_eq_false, not_false_eq_true]) | (first | refine vIfE_of ?_ ?_ | refine vIfD_of ?_ ?_ | refine vIfQ_of ?_ ?_ | refine vIfV_of ?_ ?_) <;> intro _ | refine And.intro (by omega) ?_ | refine drawn_q ?_ | fail)
        repeat' (first | (simp (disch := omega) only [push_cast, ↓reduceIte, zA, zG, zB, zH, zI, zC, zJ, zK, zL, zD, zE, zF, zM, zN, zO, zP, zQ, reduceCtorEq, not_true_eq_false, not_false_eq_true]) | (first | refine vIfE_of ?_ ?_ | refine vIfD_of ?_ ?_ | refine vIfQ_of ?_ ?_ | refine vIfV_of ?_ ?_) <;> intro _ | refine And.intro (by omega) ?_ | refine drawn_q ?_ | fail)
        refine vConv_const Try.underlying22 Try.underlying5 ?_
        have q10 := later_alloc w8 (.cells #[.int .u8 120] 5 (1, 2))
        have x10 : Sl (w8.alloc (.cells #[.int .u8 120] 5 (1, 2))) (.slice (some ⟨w8.heap.size, 0, none⟩) 1 1) (([120] : List UInt8).map u8v) := Sl.litM w8 _ _ _ (by unfold maxLen; simp)
        have n10 := inB_new (n := 1) (c := 1) C10.lt.1
        generalize w8.alloc (.cells #[.int .u8 120] 5 (1, 2)) = w11 at *
        repeat' (first | (simp (disch := omega) only [push_cast, ↓reduceIte, zA, zG, zB, zH, zI, zC, zJ, zK, zL, zD, zE, zF, zM, zN, zO, zP, zQ, reduceCtorEq, not_true_eq_false, not_false_eq_true]) | (first | refine vIfE_of ?_ ?_ | refine vIfD_of ?_ ?_ | refine vIfQ_of ?_ ?_ | refine vIfV_of ?_ ?_) <;> intro _ | refine And.intro (by omega) ?_ | refine drawn_q ?_ | fail)
        refine (append_s bc rc _ ⟨#[110, 101, 119]⟩ _ [120] w11 (C10.later q10) GC (by decide) x10 n10 (by simp)).mono ?_
        rintro _ w12 ⟨rfl, _, c12⟩
        have l512 := chg_later (l510.trans q10) c12 hbc hrc
        have S12 := S5.next l512
        have hOs12 := Sl.later hOs5 l512
        have hWs12 := Sl.later hWs l512
        clear l510 q10 C10 c12 x10 n10
        repeat' (first | (simp (disch := omega) only [push_cast, ↓reduceIte, zA, zG, zB, zH, zI, zC, zJ, zK, zL, zD, zE, zF, zM, zN, zO, zP, zQ, reduceCtorEq, not_true_eq_false, not_false_eq_true]) | (first | refine vIfE_of ?_ ?_ | refine vIfD_of ?_ ?_ | refine vIfQ_of ?_ ?_ | refine vIfV_of ?_ ?_) <;> intro _ | refine And.intro (by omega) ?_ | refine drawn_q ?_ | fail)
        refine vc_loop W8_3 (fun k : Nat => [(4, .bool false), (19, .int .i64 (k : Int))]) (fun k w' => k ≤ s.L.length ∧ Later w12 w') (fun k => s.L.length - k) 0 (by decide) ?_ ?_ ?_
        · simp (disch := omega) only [push_cast, ↓reduceIte, zA, zG, zB, zH, zI, zC, zJ, zK, zL, zD, zE, zF, zM, zN, zO, zP, zQ, reduceCtorEq, not_true_eq_false, not_false_eq_true]
          try rfl
        · exact ⟨Nat.zero_le _, Later.refl _⟩
        rintro k u5 w13 ⟨hk', l13⟩
        have hO13 := Sl.later hOs12 l13
        have hW13 := Sl.later hWs12 l13
        have S13 := S12.next l13
        by_cases hkl : k < s.L.length
        · have hd7 : decide ((k : Int) < (s.L.length : Int)) = true := decide_eq_true (by omega)
          obtain ⟨la, rfl⟩ := Sl.some hO13 (i := k) (by simpa using hkl)
          obtain ⟨lw, rfl⟩ := Sl.some hW13 (i := k) (by rw [was_len (Nat.le_refl _)]; exact hkl)
          have hc : w13.cell? (la.add k) = some (.string (s.L[k]).name) := Sl.at hO13 (by simp [hkl])
          have hob := oB_at G2.srd hkl
          repeat' (first | (simp (disch := omega) only [push_cast, ↓reduceIte, zA, zG, zB, zH, zI, zC, zJ, zK, zL, zD, zE, zF, zM, zN, zO, zP, zQ, reduceCtorEq, not_true_eq_false, not_false_eq_true, hd7, hc]) | (first | refine vIfE_of ?_ ?_ | refine vIfD_of ?_ ?_ | refine vIfQ_of ?_ ?_ | refine vIfV_of ?_ ?_) <;> intro _ | refine And.intro (by omega) ?_ | refine drawn_q ?_ | fail)
          refine (read_s bk r s _ w13 S13.v G2).mono ?_
          rintro _ w14 ⟨⟨y, rfl, hy⟩, l14⟩
          rw [hob] at hy
          obtain ⟨yo, yc, rfl⟩ := hy.slice
          have hcw : ∀ w', Later w13 w' → w'.cell? (lw.add k) = some (.string (Go.Vc.strOf (s.L[k]).b)) := fun w' hl => by
            have h1 := StS.atS (i := k) (Sl.later hW13 hl) (by rw [was_len (Nat.le_refl _)]; exact hkl)
            rw [was_at hkl] at h1
            exact h1
          have e9 : decide (Go.Vc.strOf (s.L[k]).b = Go.Vc.strOf (s.L[k]).b) = true := decide_eq_true rfl
          have hcw14 := hcw w14 l14
          repeat' (first | (simp (disch := omega) only [push_cast, ↓reduceIte, zA, zG, zB, zH, zI, zC, zJ, zK, zL, zD, zE, zF, zM, zN, zO, zP, zQ, reduceCtorEq, not_true_eq_false, not_false_eq_true]) | (first | refine vIfE_of ?_ ?_ | refine vIfD_of ?_ ?_ | refine vIfQ_of ?_ ?_ | refine vIfV_of ?_ ?_) <;> intro _ | refine And.intro (by omega) ?_ | refine drawn_q ?_ | fail)
          refine qConv_bytes Try.underlying22 Try.underlying9 Try.underlying5 (by simp (disch := omega) only [push_cast, ↓reduceIte, zA, zG, zB, zH, zI, zC, zJ, zK, zL, zD, zE, zF, zM, zN, zO, zP, zQ, reduceCtorEq, not_true_eq_false, not_false_eq_true]) hy.sl ?_
          repeat' (first | (simp (disch := omega) only [push_cast, ↓reduceIte, zA, zG, zB, zH, zI, zC, zJ, zK, zL, zD, zE, zF, zM, zN, zO, zP, zQ, reduceCtorEq, not_true_eq_false, not_false_eq_true, hcw14, e9]) | (first | refine vIfE_of ?_ ?_ | refine vIfD_of ?_ ?_ | refine vIfQ_of ?_ ?_ | refine vIfV_of ?_ ?_) <;> intro _ | refine And.intro (by omega) ?_ | refine drawn_q ?_ | fail)
          exact fun w15 l15 => ⟨rfl, k + 1, by simp (disch := omega) only [push_cast, ↓reduceIte, zA, zG, zB, zH, zI, zC, zJ, zK, zL, zD, zE, zF, zM, zN, zO, zP, zQ, reduceCtorEq, not_true_eq_false, not_false_eq_true], ⟨by omega, l13.trans (l14.trans l15)⟩, by dsimp only; omega⟩
        · have hd7 : decide ((k : Int) < (s.L.length : Int)) = false := decide_eq_false (by omega)
          repeat' (first | (simp (disch := omega) only [push_cast, ↓reduceIte, zA, zG, zB, zH, zI, zC, zJ, zK, zL, zD, zE, zF, zM, zN, zO, zP, zQ, reduceCtorEq, not_true_eq_false, not_false_eq_true, hd7]) | (first | refine vIfE_of ?_ ?_ | refine vIfD_of ?_ ?_ | refine vIfQ_of ?_ ?_ | refine vIfV_of ?_ ?_) <;> intro _ | refine And.intro (by omega) ?_ | refine drawn_q ?_ | fail)
          refine (alive_c w13).mono ?_
          rintro _ w14 ⟨rfl, l14⟩
          have S14 := S13.next l14
          repeat' (first | (simp (disch := omega) only [push_cast, ↓reduceIte, zA, zG, zB, zH, zI, zC, zJ, zK, zL, zD, zE, zF, zM, zN, zO, zP, zQ, reduceCtorEq, not_true_eq_false, not_false_eq_true]) | (first | refine vIfE_of ?_ ?_ | refine vIfD_of ?_ ?_ | refine vIfQ_of ?_ ?_ | refine vIfV_of ?_ ?_) <;> intro _ | refine And.intro (by omega) ?_ | refine drawn_q ?_ | fail)
          refine (free_s bk r s w14 S14.v G2).mono ?_
          rintro _ w15 ⟨rfl, l15⟩
          have S15 := S14.next l15
          have e8 : decide (s.room - tl s.L = s.room - tl s.L) = true := decide_eq_true rfl
          repeat' (first | (simp (disch := omega) only [push_cast, ↓reduceIte, zA, zG, zB, zH, zI, zC, zJ, zK, zL, zD, zE, zF, zM, zN, zO, zP, zQ, reduceCtorEq, not_true_eq_false, not_false_eq_true, e8]) | (first | refine vIfE_of ?_ ?_ | refine vIfD_of ?_ ?_ | refine vIfQ_of ?_ ?_ | refine vIfV_of ?_ ?_) <;> intro _ | refine And.intro (by omega) ?_ | refine drawn_q ?_ | fail)
          refine (list_s bk r s w15 S15.v G2).mono ?_
          rintro lv w16 ⟨hO16, l16⟩
          have hO16s := OwnN.st hO16
          obtain ⟨zo, zc, rfl⟩ := OwnN.slice hO16
          rw [List.length_map] at hO16s ⊢
          repeat' (first | (simp (disch := omega) only [push_cast, ↓reduceIte, zA, zG, zB, zH, zI, zC, zJ, zK, zL, zD, zE, zF, zM, zN, zO, zP, zQ, reduceCtorEq, not_true_eq_false, not_false_eq_true]) | (first | refine vIfE_of ?_ ?_ | refine vIfD_of ?_ ?_ | refine vIfQ_of ?_ ?_ | refine vIfV_of ?_ ?_) <;> intro _ | refine And.intro (by omega) ?_ | refine drawn_q ?_ | fail)
          refine (texts_c _ _ _ _ w16 hO16s (Sl.later hO13 (l14.trans (l15.trans l16)))).mono ?_
          rintro _ w17 ⟨rfl, l17⟩
          have et : decide (s.L.map Fl.name = s.L.map Fl.name) = true := decide_eq_true rfl
          rw [et]
          repeat' (first | (simp (disch := omega) only [push_cast, ↓reduceIte, zA, zG, zB, zH, zI, zC, zJ, zK, zL, zD, zE, zF, zM, zN, zO, zP, zQ, reduceCtorEq, not_true_eq_false, not_false_eq_true]) | (first | refine vIfE_of ?_ ?_ | refine vIfD_of ?_ ?_ | refine vIfQ_of ?_ ?_ | refine vIfV_of ?_ ?_) <;> intro _ | refine And.intro (by omega) ?_ | refine drawn_q ?_ | fail)
          first | exact ⟨rfl, ((S15.later.trans l16).trans l17)⟩ | exact ((S15.later.trans l16).trans l17)
  have hd : decide ((i : Int) < (l.length : Int)) = true := decide_eq_true (by omega)
  by_cases h80 : (i : Int) < 80
  case neg =>
    have hd2 := decide_eq_false h80
    repeat' (first | (simp (disch := omega) only [push_cast, ↓reduceIte, zA, zG, zB, zH, zI, zC, zJ, zK, zL, zD, zE, zF, zM, zN, zO, zP, zQ, reduceCtorEq, not_true_eq_false, not_false_eq_true, hd, hd2]) | (first | refine vIfE_of ?_ ?_ | refine vIfD_of ?_ ?_ | refine vIfQ_of ?_ ?_ | refine vIfV_of ?_ ?_) <;> intro _ | refine And.intro (by omega) ?_ | refine drawn_q ?_ | fail)
    have hlenL := G2.len
    refine (list_s bk r s w2 S2.v G2).mono ?_
    rintro lv w3 ⟨hO, l3⟩
    obtain ⟨lo, lc, rfl⟩ := OwnN.slice hO
    rw [List.length_map] at hO ⊢
    have hOs : StS w3 (.slice lo s.L.length lc) (s.L.map Fl.name) := OwnN.st hO
    have S3 := S2.next l3
    have B3 := B2.chg (Chg.of_later (ks := []) l3) (by simp)
    clear hO B2 S2 l3
    repeat' (first | (simp (disch := omega) only [push_cast, ↓reduceIte, zA, zG, zB, zH, zI, zC, zJ, zK, zL, zD, zE, zF, zM, zN, zO, zP, zQ, reduceCtorEq, not_true_eq_false, not_false_eq_true]) | (first | refine vIfE_of ?_ ?_ | refine vIfD_of ?_ ?_ | refine vIfQ_of ?_ ?_ | refine vIfV_of ?_ ?_) <;> intro _ | refine And.intro (by omega) ?_ | refine drawn_q ?_ | fail)
    refine (free_s bk r s w3 S3.v G2).mono ?_
    rintro _ w4 ⟨rfl, l4⟩
    have S4 := S3.next l4
    have B4 := B3.chg (Chg.of_later (ks := []) l4) (by simp)
    have hOs := Sl.later hOs l4
    clear S3 B3 l4
    repeat' (first | (simp (disch := omega) only [push_cast, ↓reduceIte, zA, zG, zB, zH, zI, zC, zJ, zK, zL, zD, zE, zF, zM, zN, zO, zP, zQ, reduceCtorEq, not_true_eq_false, not_false_eq_true]) | (first | refine vIfE_of ?_ ?_ | refine vIfD_of ?_ ?_ | refine vIfQ_of ?_ ?_ | refine vIfV_of ?_ ?_) <;> intro _ | refine And.intro (by omega) ?_ | refine drawn_q ?_ | fail)
    refine vc_loop W8_1 (fun t : Nat × Value => [(11, t.2), (12, .int .i64 (t.1 : Int))]) (fun t w' => t.1 ≤ s.L.length ∧ Later w4 w' ∧ OwnN w' w4.heap.size t.2 (was s.L t.1)) (fun t => s.L.length - t.1) (0, .slice none 0 0) (by decide) ?_ ?_ ?_
    · simp (disch := omega) only [push_cast, ↓reduceIte, zA, zG, zB, zH, zI, zC, zJ, zK, zL, zD, zE, zF, zM, zN, zO, zP, zQ, reduceCtorEq, not_true_eq_false, not_false_eq_true]
      try rfl
    · exact ⟨Nat.zero_le _, Later.refl _, own_nil _ _ _ _⟩
    rintro ⟨k, wv⟩ u2 w5 ⟨hk, l5, hW⟩
    dsimp only at hk hW
    obtain ⟨wo, wc, rfl⟩ := OwnN.slice hW
    rw [was_len hk] at hW ⊢
    have hOs5 := Sl.later hOs l5
    by_cases hkl : k < s.L.length
    · have hd5 : decide ((k : Int) < (s.L.length : Int)) = true := decide_eq_true (by omega)
      obtain ⟨la, rfl⟩ := Sl.some hOs5 (i := k) (by simpa using hkl)
      have hc : w5.cell? (la.add k) = some (.string (s.L[k]).name) := Sl.at hOs5 (by simp [hkl])
      have hob := oB_at G2.srd hkl
      have hsn := was_snoc hkl
      repeat' (first | (simp (disch := omega) only [push_cast, ↓reduceIte, zA, zG, zB, zH, zI, zC, zJ, zK, zL, zD, zE, zF, zM, zN, zO, zP, zQ, reduceCtorEq, not_true_eq_false, not_false_eq_true, hd5, hc]) | (first | refine vIfE_of ?_ ?_ | refine vIfD_of ?_ ?_ | refine vIfQ_of ?_ ?_ | refine vIfV_of ?_ ?_) <;> intro _ | refine And.intro (by omega) ?_ | refine drawn_q ?_ | fail)
      refine (read_s bk r s _ w5 (S4.v.later l5) G2).mono ?_
      rintro _ w6 ⟨⟨y, rfl, hy⟩, l6⟩
      rw [hob] at hy
      obtain ⟨yo, yc, rfl⟩ := hy.slice
      have hblen : (s.L[k]).b.length ≤ 16777216 := by
        have h1 := oB_le (k := (s.L[k]).name) (L := s.L)
        rw [hob] at h1
        have := G2.tot
        omega
      generalize (s.L[k]).b = bb at *
      have hW6 := own_later hW l6
      repeat' (first | (simp (disch := omega) only [push_cast, ↓reduceIte, zA, zG, zB, zH, zI, zC, zJ, zK, zL, zD, zE, zF, zM, zN, zO, zP, zQ, reduceCtorEq, not_true_eq_false, not_false_eq_true]) | (first | refine vIfE_of ?_ ?_ | refine vIfD_of ?_ ?_ | refine vIfQ_of ?_ ?_ | refine vIfV_of ?_ ?_) <;> intro _ | refine And.intro (by omega) ?_ | refine drawn_q ?_ | fail)
      refine vConv_bytes Try.underlying22 Try.underlying9 Try.underlying5 hy.sl ?_
      repeat' (first | (simp (disch := omega) only [push_cast, ↓reduceIte, zA, zG, zB, zH, zI, zC, zJ, zK, zL, zD, zE, zF, zM, zN, zO, zP, zQ, reduceCtorEq, not_true_eq_false, not_false_eq_true]) | (first | refine vIfE_of ?_ ?_ | refine vIfD_of ?_ ?_ | refine vIfQ_of ?_ ?_ | refine vIfV_of ?_ ?_) <;> intro _ | refine And.intro (by omega) ?_ | refine drawn_q ?_ | fail)
      have hlw := was_len hk
      refine vAppend_own Try.underlying40 ti9 rfl (by decide) (own_alloc hW6 _) (Sl.one w6 (.string (Go.Vc.strOf bb)) 9) (by simp [Value.oneCell']) (by unfold maxLen; simp only [List.length_cons, List.length_nil]; omega) (by simp only [List.length_cons, List.length_nil]; omega) (by rw [World.size_alloc]; have := (l5.trans l6).size; omega) ?_
      intro v' w7 ho hg2 _
      have la6 := later_alloc w6 (.cells #[.string (Go.Vc.strOf bb)] 9)
      have t6 := own_alloc hW6 (.cells #[.string (Go.Vc.strOf bb)] 9)
      have hy7 : OwnB w7 w5.heap.size 5 (.slice yo bb.length yc) bb := own_grown_ty (own_later hy la6) t6 (by decide) hg2
      have l47 : Later w4 w7 := ((l5.trans l6).trans la6).appended t6 (Nat.le_refl _) hg2
      have ho : OwnN w7 w4.heap.size v' (was s.L (k + 1)) := by rw [hsn]; simpa [OwnN, hlw] using ho
      obtain ⟨o2, c2, rfl⟩ := OwnN.slice ho
      clear la6 t6 hg2 hW6 hW
      repeat' (first | (simp (disch := omega) only [push_cast, ↓reduceIte, zA, zG, zB, zH, zI, zC, zJ, zK, zL, zD, zE, zF, zM, zN, zO, zP, zQ, reduceCtorEq, not_true_eq_false, not_false_eq_true]) | (first | refine vIfE_of ?_ ?_ | refine vIfD_of ?_ ?_ | refine vIfQ_of ?_ ?_ | refine vIfV_of ?_ ?_) <;> intro _ | refine And.intro (by omega) ?_ | refine drawn_q ?_ | fail)
      refine vc_loop W8_2 (fun j : Nat => [(15, .int .i64 (j : Int))])
        (fun j w' => j ≤ bb.length ∧ Later w4 w' ∧ OwnN w' w4.heap.size (.slice o2 (was s.L (k + 1)).length c2) (was s.L (k + 1)) ∧ ∃ q, q.length = bb.length ∧ OwnB w' w5.heap.size 5 (.slice yo bb.length yc) q) (fun j => bb.length - j) 0 (by decide) ?_ ?_ ?_
      · simp (disch := omega) only [push_cast, ↓reduceIte, zA, zG, zB, zH, zI, zC, zJ, zK, zL, zD, zE, zF, zM, zN, zO, zP, zQ, reduceCtorEq, not_true_eq_false, not_false_eq_true]
        try rfl
      · exact ⟨Nat.zero_le _, l47, ho, bb, rfl, hy7⟩
      rintro j u3 w8 ⟨hj, l48, hW8, q, hq, hob8⟩
      have hos := hob8.sl
      unfold OwnB at hob8
      rw [hq] at hob8
      by_cases hjl : j < bb.length
      · have hd6 : decide ((j : Int) < (bb.length : Int)) = true := decide_eq_true (by omega)
        have hjq : j < q.length := by omega
        obtain ⟨ap, rfl⟩ := hos.some hjq
        obtain ⟨kp, cs, rfl, hkp, hkb⟩ := own_blk' hob8
        have c0 := hos.at8 hjq
        rw [addr_add_eq, Nat.zero_add] at c0
        obtain ⟨ho5, hce, hfz⟩ := own_set hob8 (i := j) hjl (.int .u8 (IntKind.u8.wrap ((q[j].toNat : Int) + 1)))
        have e1 : ((q[j].toNat : Int) + 1) = ((q[j].toNat + 1 : Nat) : Int) := by omega
        have g5 := chg_setCell (i := j) w8 (ks := [kp]) (k := kp) (by simp) (.int .u8 (IntKind.u8.wrap ((q[j].toNat : Int) + 1)))
        have hq5 : (q.map u8v).set j (.int .u8 (IntKind.u8.wrap ((q[j].toNat : Int) + 1))) = (q.set j (UInt8.ofNat (q[j].toNat + 1))).map u8v := by
          rw [List.map_set, e1, u8_wrap]
        rw [hq5] at ho5
        have hW9 := own_chg_ty hW8 hkb.1 (by decide) g5
        have l49 := g5.later l48 (by have := l5.size; simp; omega)
        repeat' (first | (simp (disch := omega) only [push_cast, ↓reduceIte, zA, zG, zB, zH, zI, zC, zJ, zK, zL, zD, zE, zF, zM, zN, zO, zP, zQ, reduceCtorEq, not_true_eq_false, not_false_eq_true, hd6, c0, addr_add_eq, Nat.zero_add, hfz]) | (first | refine vIfE_of ?_ ?_ | refine vIfD_of ?_ ?_ | refine vIfQ_of ?_ ?_ | refine vIfV_of ?_ ?_) <;> intro _ | refine And.intro (by omega) ?_ | refine drawn_q ?_ | fail)
        refine ⟨rfl, j + 1, by simp (disch := omega) only [push_cast, ↓reduceIte, zA, zG, zB, zH, zI, zC, zJ, zK, zL, zD, zE, zF, zM, zN, zO, zP, zQ, reduceCtorEq, not_true_eq_false, not_false_eq_true], ⟨by omega, l49, hW9, q.set j (UInt8.ofNat (q[j].toNat + 1)), by simp [hq], ?_⟩, by dsimp only; omega⟩
        unfold OwnB
        rw [List.length_set, hq]; exact ho5
      · have hd6 : decide ((j : Int) < (bb.length : Int)) = false := decide_eq_false (by omega)
        repeat' (first | (simp (disch := omega) only [push_cast, ↓reduceIte, zA, zG, zB, zH, zI, zC, zJ, zK, zL, zD, zE, zF, zM, zN, zO, zP, zQ, reduceCtorEq, not_true_eq_false, not_false_eq_true, hd6]) | (first | refine vIfE_of ?_ ?_ | refine vIfD_of ?_ ?_ | refine vIfQ_of ?_ ?_ | refine vIfV_of ?_ ?_) <;> intro _ | refine And.intro (by omega) ?_ | refine drawn_q ?_ | fail)
        exact ⟨rfl, (k + 1, .slice o2 (was s.L (k + 1)).length c2), by simp (disch := omega) only [push_cast, ↓reduceIte, zA, zG, zB, zH, zI, zC, zJ, zK, zL, zD, zE, zF, zM, zN, zO, zP, zQ, reduceCtorEq, not_true_eq_false, not_false_eq_true], ⟨by dsimp only; omega, l48, hW8⟩, by dsimp only; omega⟩
    · have hkk : k = s.L.length := by omega
      subst hkk
      have hd5 : decide ((s.L.length : Int) < (s.L.length : Int)) = false := decide_eq_false (by omega)
      have S5 := S4.next l5
      have B5 := B4.chg (Chg.of_later (ks := []) l5) (by simp)
      have hWs : StS w5 (.slice wo s.L.length wc) (was s.L s.L.length) := OwnN.st hW
      clear hW S4 B4 hOs l5
      repeat' (first | (simp (disch := omega) only [push_cast, ↓reduceIte, zA, zG, zB, zH, zI, zC, zJ, zK, zL, zD, zE, zF, zM, zN, zO, zP, zQ, reduceCtorEq, not_true_eq_false, not_false_eq_true, hd5]) | (first | refine vIfE_of ?_ ?_ | refine vIfD_of ?_ ?_ | refine vIfQ_of ?_ ?_ | refine vIfV_of ?_ ?_) <;> intro _ | refine And.intro (by omega) ?_ | refine drawn_q ?_ | fail)
      refine (copy_s bk r s w5 S5.v).mono ?_
      rintro _ w6 ⟨⟨bc, rc, rfl, hbc, hrc, C6⟩, l6⟩
      have S6 := S5.next l6
      have B6 := B5.chg (Chg.of_later (ks := []) l6) (by simp)
      obtain ⟨a0, a1, a2, a3, a4, a5⟩ := actAt B6
      repeat' (first | (simp (disch := omega) only [push_cast, ↓reduceIte, zA, zG, zB, zH, zI, zC, zJ, zK, zL, zD, zE, zF, zM, zN, zO, zP, zQ, reduceCtorEq, not_true_eq_false, not_false_eq_true, a1, addr_add_eq, Nat.zero_add]) | (first | refine vIfE_of ?_ ?_ | refine vIfD_of ?_ ?_ | refine vIfQ_of ?_ ?_ | refine vIfV_of ?_ ?_) <;> intro _ | refine And.intro (by omega) ?_ | refine drawn_q ?_ | fail)
      refine (crash_s bk r s x0.n w6 S6.v G2 hx0.n).mono ?_
      rintro _ w7 ⟨⟨bd, rd, rfl, hbd, hrd, D7⟩, l7⟩
      have S7 := S6.next l7
      have B7 := B6.chg (Chg.of_later (ks := []) l7) (by simp)
      have C7 := C6.later l7
      have hcl := C6.lt
      obtain ⟨a0, a1, a2, a3, a4, a5⟩ := actAt B7
      repeat' (first | (simp (disch := omega) only [push_cast, ↓reduceIte, zA, zG, zB, zH, zI, zC, zJ, zK, zL, zD, zE, zF, zM, zN, zO, zP, zQ, reduceCtorEq, not_true_eq_false, not_false_eq_true, a5]) | (first | refine vIfE_of ?_ ?_ | refine vIfD_of ?_ ?_ | refine vIfQ_of ?_ ?_ | refine vIfV_of ?_ ?_) <;> intro _ | refine And.intro (by omega) ?_ | refine drawn_q ?_ | fail)
      refine (fits_c x0 w7 (hx0.later S7.later)).mono ?_
      rintro _ w8 ⟨rfl, l8⟩
      have S8 := S7.next l8
      have B8 := B7.chg (Chg.of_later (ks := []) l8) (by simp)
      have C8 := C7.later l8
      have D8 := D7.later l8
      have l58 := l6.trans (l7.trans l8)
      have hwc : w.heap.size ≤ bc := Nat.le_trans S5.later.size hbc
      have hwd : w.heap.size ≤ bd := Nat.le_trans S6.later.size hbd
      have hbd5 : w5.heap.size ≤ bd := Nat.le_trans l6.size hbd
      have hrd5 : w5.heap.size ≤ rd := Nat.le_trans l6.size hrd
      have hw5lt := S5.v.lt
      clear S6 S7 B6 B7 C6 C7 D7 l6 l7 l8
      obtain ⟨a0, a1, a2, a3, a4, a5⟩ := actAt B8
      cases hf : fitB x0 with
      | true =>
        repeat' (first | (simp (disch := omega) only [push_cast, ↓reduceIte, zA, zG, zB, zH, zI, zC, zJ, zK, zL, zD, zE, zF, zM, zN, zO, zP, zQ, reduceCtorEq, not_true_eq_false, not_false_eq_true, a5]) | (first | refine vIfE_of ?_ ?_ | refine vIfD_of ?_ ?_ | refine vIfQ_of ?_ ?_ | refine vIfV_of ?_ ?_) <;> intro _ | refine And.intro (by omega) ?_ | refine drawn_q ?_ | fail)
        refine (do_c x0 bc rc s w8 C8 G2 (hx0.later S8.later) hf (inB_of (w1 := w) hx0.sl hwc)).mono ?_
        rintro _ w9 ⟨rfl, C9, c9⟩
        have GC := aDo_good G2 x0 hx0.n.2
        have D9 := D8.other C8 c9 (by omega) (by omega)
        have l59 := chg_later l58 c9 hbc hrc
        have hw5 := S5.later.size
        have hlt5 := B5.lt
        have B9 := B8.chg c9 (by simp; omega)
        obtain ⟨a0, a1, a2, a3, a4, a5⟩ := actAt B9
        repeat' (first | (simp (disch := omega) only [push_cast, ↓reduceIte, zA, zG, zB, zH, zI, zC, zJ, zK, zL, zD, zE, zF, zM, zN, zO, zP, zQ, reduceCtorEq, not_true_eq_false, not_false_eq_true, a5]) | (first | refine vIfE_of ?_ ?_ | refine vIfD_of ?_ ?_ | refine vIfQ_of ?_ ?_ | refine vIfV_of ?_ ?_) <;> intro _ | refine And.intro (by omega) ?_ | refine drawn_q ?_ | fail)
        refine (do_c x0 bd rd _ w9 D9 (aCrash_good G2 x0.n) (hx0.later (S5.later.trans l59)) hf (inB_of (w1 := w) hx0.sl hwd)).mono ?_
        rintro _ w10 ⟨rfl, _, c10⟩
        have C10 := C9.other D9 c10 (by omega) (by omega)
        have l510 := chg_later l59 c10 hbd5 hrd5
        clear C8 D8 C9 D9 c9 c10 B8 B9 l58 l59
        repeat' (first | (simp (disch := omega) only [push_cast, ↓reduceIte, zA, zG, zB, zH, zI, zC, zJ, zK, zL, zD, zE, zF, zM, zN, zO, zP, zQ, reduceCtorEq, not_true_eq_false, not_false_eq_true]) | (first | refine vIfE_of ?_ ?_ | refine vIfD_of ?_ ?_ | refine vIfQ_of ?_ ?_ | refine vIfV_of ?_ ?_) <;> intro _ | refine And.intro (by omega) ?_ | refine drawn_q ?_ | fail)
        refine vConv_const Try.underlying22 Try.underlying5 ?_
        have q10 := later_alloc w10 (.cells #[.int .u8 120] 5 (1, 2))
        have x10 : Sl (w10.alloc (.cells #[.int .u8 120] 5 (1, 2))) (.slice (some ⟨w10.heap.size, 0, none⟩) 1 1) (([120] : List UInt8).map u8v) := Sl.litM w10 _ _ _ (by unfold maxLen; simp)
        have n10 := inB_new (n := 1) (c := 1) C10.lt.1
        generalize w10.alloc (.cells #[.int .u8 120] 5 (1, 2)) = w11 at *
        repeat' (first | (simp (disch := omega) only [push_cast, ↓reduceIte, zA, zG, zB, zH, zI, zC, zJ, zK, zL, zD, zE, zF, zM, zN, zO, zP, zQ, reduceCtorEq, not_true_eq_false, not_false_eq_true]) | (first | refine vIfE_of ?_ ?_ | refine vIfD_of ?_ ?_ | refine vIfQ_of ?_ ?_ | refine vIfV_of ?_ ?_) <;> intro _ | refine And.intro (by omega) ?_ | refine drawn_q ?_ | fail)
        refine (append_s bc rc _ ⟨#[110, 101, 119]⟩ _ [120] w11 (C10.later q10) GC (by decide) x10 n10 (by simp)).mono ?_
        rintro _ w12 ⟨rfl, _, c12⟩
        have l512 := chg_later (l510.trans q10) c12 hbc hrc
        have S12 := S5.next l512
        have hOs12 := Sl.later hOs5 l512
        have hWs12 := Sl.later hWs l512
        clear l510 q10 C10 c12 x10 n10
        repeat' (first | (simp (disch := omega) only [push_cast, ↓reduceIte, zA, zG, zB, zH, zI, zC, zJ, zK, zL, zD, zE, zF, zM, zN, zO, zP, zQ, reduceCtorEq, not_true_eq_false, not_false_eq_true]) | (first | refine vIfE_of ?_ ?_ | refine vIfD_of ?_ ?_ | refine vIfQ_of ?_ ?_ | refine vIfV_of ?_ ?_) <;> intro _ | refine And.intro (by omega) ?_ | refine drawn_q ?_ | fail)
        refine vc_loop W8_3 (fun k : Nat => [(4, .bool false), (19, .int .i64 (k : Int))]) (fun k w' => k ≤ s.L.length ∧ Later w12 w') (fun k => s.L.length - k) 0 (by decide) ?_ ?_ ?_
        · simp (disch := omega) only [push_cast, ↓reduceIte, zA, zG, zB, zH, zI, zC, zJ, zK, zL, zD, zE, zF, zM, zN, zO, zP, zQ, reduceCtorEq, not_true_eq_false, not_false_eq_true]
          try rfl
        · exact ⟨Nat.zero_le _, Later.refl _⟩
        rintro k u5 w13 ⟨hk', l13⟩
        have hO13 := Sl.later hOs12 l13
        have hW13 := Sl.later hWs12 l13
        have S13 := S12.next l13
        by_cases hkl : k < s.L.length
        · have hd7 : decide ((k : Int) < (s.L.length : Int)) = true := decide_eq_true (by omega)
          obtain ⟨la, rfl⟩ := Sl.some hO13 (i := k) (by simpa using hkl)
          obtain ⟨lw, rfl⟩ := Sl.some hW13 (i := k) (by rw [was_len (Nat.le_refl _)]; exact hkl)
          have hc : w13.cell? (la.add k) = some (.string (s.L[k]).name) := Sl.at hO13 (by simp [hkl])
          have hob := oB_at G2.srd hkl
          repeat' (first | (simp (disch := omega) only [push_cast, ↓reduceIte, zA, zG, zB, zH, zI, zC, zJ, zK, zL, zD, zE, zF, zM, zN, zO, zP, zQ, reduceCtorEq, not_true_eq_false, not_false_eq_true, hd7, hc]) | (first | refine vIfE_of ?_ ?_ | refine vIfD_of ?_ ?_ | refine vIfQ_of ?_ ?_ | refine vIfV_of ?_ ?_) <;> intro _ | refine And.intro (by omega) ?_ | refine drawn_q ?_ | fail)
          refine (read_s bk r s _ w13 S13.v G2).mono ?_
          rintro _ w14 ⟨⟨y, rfl, hy⟩, l14⟩
          rw [hob] at hy
          obtain ⟨yo, yc, rfl⟩ := hy.slice
          have hcw : ∀ w', Later w13 w' → w'.cell? (lw.add k) = some (.string (Go.Vc.strOf (s.L[k]).b)) := fun w' hl => by
            have h1 := StS.atS (i := k) (Sl.later hW13 hl) (by rw [was_len (Nat.le_refl _)]; exact hkl)
            rw [was_at hkl] at h1
            exact h1
          have e9 : decide (Go.Vc.strOf (s.L[k]).b = Go.Vc.strOf (s.L[k]).b) = true := decide_eq_true rfl
          have hcw14 := hcw w14 l14
          repeat' (first | (simp (disch := omega) only [push_cast, ↓reduceIte, zA, zG, zB, zH, zI, zC, zJ, zK, zL, zD, zE, zF, zM, zN, zO, zP, zQ, reduceCtorEq, not_true_eq_false, not_false_eq_true]) | (first | refine vIfE_of ?_ ?_ | refine vIfD_of ?_ ?_ | refine vIfQ_of ?_ ?_ | refine vIfV_of ?_ ?_) <;> intro _ | refine And.intro (by omega) ?_ | refine drawn_q ?_ | fail)
          refine qConv_bytes Try.underlying22 Try.underlying9 Try.underlying5 (by simp (disch := omega) only [push_cast, ↓reduceIte, zA, zG, zB, zH, zI, zC, zJ, zK, zL, zD, zE, zF, zM, zN, zO, zP, zQ, reduceCtorEq, not_true_eq_false, not_false_eq_true]) hy.sl ?_
          repeat' (first | (simp (disch := omega) only [push_cast, ↓reduceIte, zA, zG, zB, zH, zI, zC, zJ, zK, zL, zD, zE, zF, zM, zN, zO, zP, zQ, reduceCtorEq, not_true_eq_false, not_false_eq_true, hcw14, e9]) | (first | refine vIfE_of ?_ ?_ | refine vIfD_of ?_ ?_ | refine vIfQ_of ?_ ?_ | refine vIfV_of ?_ ?_) <;> intro _ | refine And.intro (by omega) ?_ | refine drawn_q ?_ | fail)
          exact fun w15 l15 => ⟨rfl, k + 1, by simp (disch := omega) only [push_cast, ↓reduceIte, zA, zG, zB, zH, zI, zC, zJ, zK, zL, zD, zE, zF, zM, zN, zO, zP, zQ, reduceCtorEq, not_true_eq_false, not_false_eq_true], ⟨by omega, l13.trans (l14.trans l15)⟩, by dsimp only; omega⟩
        · have hd7 : decide ((k : Int) < (s.L.length : Int)) = false := decide_eq_false (by omega)
          repeat' (first | (simp (disch := omega) only [push_cast, ↓reduceIte, zA, zG, zB, zH, zI, zC, zJ, zK, zL, zD, zE, zF, zM, zN, zO, zP, zQ, reduceCtorEq, not_true_eq_false, not_false_eq_true, hd7]) | (first | refine vIfE_of ?_ ?_ | refine vIfD_of ?_ ?_ | refine vIfQ_of ?_ ?_ | refine vIfV_of ?_ ?_) <;> intro _ | refine And.intro (by omega) ?_ | refine drawn_q ?_ | fail)
          refine (alive_c w13).mono ?_
          rintro _ w14 ⟨rfl, l14⟩
          have S14 := S13.next l14
          repeat' (first | (simp (disch := omega) only [push_cast, ↓reduceIte, zA, zG, zB, zH, zI, zC, zJ, zK, zL, zD, zE, zF, zM, zN, zO, zP, zQ, reduceCtorEq, not_true_eq_false, not_false_eq_true]) | (first | refine vIfE_of ?_ ?_ | refine vIfD_of ?_ ?_ | refine vIfQ_of ?_ ?_ | refine vIfV_of ?_ ?_) <;> intro _ | refine And.intro (by omega) ?_ | refine drawn_q ?_ | fail)
          refine (free_s bk r s w14 S14.v G2).mono ?_
          rintro _ w15 ⟨rfl, l15⟩
          have S15 := S14.next l15
          have e8 : decide (s.room - tl s.L = s.room - tl s.L) = true := decide_eq_true rfl
          repeat' (first | (simp (disch := omega) only [push_cast, ↓reduceIte, zA, zG, zB, zH, zI, zC, zJ, zK, zL, zD, zE, zF, zM, zN, zO, zP, zQ, reduceCtorEq, not_true_eq_false, not_false_eq_true, e8]) | (first | refine vIfE_of ?_ ?_ | refine vIfD_of ?_ ?_ | refine vIfQ_of ?_ ?_ | refine vIfV_of ?_ ?_) <;> intro _ | refine And.intro (by omega) ?_ | refine drawn_q ?_ | fail)
          refine (list_s bk r s w15 S15.v G2).mono ?_
          rintro lv w16 ⟨hO16, l16⟩
          have hO16s := OwnN.st hO16
          obtain ⟨zo, zc, rfl⟩ := OwnN.slice hO16
          rw [List.length_map] at hO16s ⊢
          repeat' (first | (simp (disch := omega) only [push_cast, ↓reduceIte, zA, zG, zB, zH, zI, zC, zJ, zK, zL, zD, zE, zF, zM, zN, zO, zP, zQ, reduceCtorEq, not_true_eq_false, not_false_eq_true]) | (first | refine vIfE_of ?_ ?_ | refine vIfD_of ?_ ?_ | refine vIfQ_of ?_ ?_ | refine vIfV_of ?_ ?_) <;> intro _ | refine And.intro (by omega) ?_ | refine drawn_q ?_ | fail)
          refine (texts_c _ _ _ _ w16 hO16s (Sl.later hO13 (l14.trans (l15.trans l16)))).mono ?_
          rintro _ w17 ⟨rfl, l17⟩
          have et : decide (s.L.map Fl.name = s.L.map Fl.name) = true := decide_eq_true rfl
          rw [et]
          repeat' (first | (simp (disch := omega) only [push_cast, ↓reduceIte, zA, zG, zB, zH, zI, zC, zJ, zK, zL, zD, zE, zF, zM, zN, zO, zP, zQ, reduceCtorEq, not_true_eq_false, not_false_eq_true]) | (first | refine vIfE_of ?_ ?_ | refine vIfD_of ?_ ?_ | refine vIfQ_of ?_ ?_ | refine vIfV_of ?_ ?_) <;> intro _ | refine And.intro (by omega) ?_ | refine drawn_q ?_ | fail)
          first | exact ⟨rfl, ((S15.later.trans l16).trans l17)⟩ | exact ((S15.later.trans l16).trans l17)
      | false =>
        have C10 := C8
        have GC := G2
        have l510 := l58
        clear C8 D8 l58
        repeat' (first | (simp (disch := omega) only [push_cast, ↓reduceIte, zA, zG, zB, zH, zI, zC, zJ, zK, zL, zD, zE, zF, zM, zN, zO, zP, zQ, reduceCtorEq, not_true_eq_false, not_false_eq_true]) | (first | refine vIfE_of ?_ ?_ | refine vIfD_of ?_ ?_ | refine vIfQ_of ?_ ?_ | refine vIfV_of ?_ ?_) <;> intro _ | refine And.intro (by omega) ?_ | refine drawn_q ?_ | fail)
        repeat' (first | (simp (disch := omega) only [push_cast, ↓reduceIte, zA, zG, zB, zH, zI, zC, zJ, zK, zL, zD, zE, zF, zM, zN, zO, zP, zQ, reduceCtorEq, not_true_eq_false, not_false_eq_true]) | (first | refine vIfE_of ?_ ?_ | refine vIfD_of ?_ ?_ | refine vIfQ_of ?_ ?_ | refine vIfV_of ?_ ?_) <;> intro _ | refine And.intro (by omega) ?_ | refine drawn_q ?_ | fail)
        refine vConv_const Try.underlying22 Try.underlying5 ?_
        have q10 := later_alloc w8 (.cells #[.int .u8 120] 5 (1, 2))
        have x10 : Sl (w8.alloc (.cells #[.int .u8 120] 5 (1, 2))) (.slice (some ⟨w8.heap.size, 0, none⟩) 1 1) (([120] : List UInt8).map u8v) := Sl.litM w8 _ _ _ (by unfold maxLen; simp)
        have n10 := inB_new (n := 1) (c := 1) C10.lt.1
        generalize w8.alloc (.cells #[.int .u8 120] 5 (1, 2)) = w11 at *
        repeat' (first | (simp (disch := omega) only [push_cast, ↓reduceIte, zA, zG, zB, zH, zI, zC, zJ, zK, zL, zD, zE, zF, zM, zN, zO, zP, zQ, reduceCtorEq, not_true_eq_false, not_false_eq_true]) | (first | refine vIfE_of ?_ ?_ | refine vIfD_of ?_ ?_ | refine vIfQ_of ?_ ?_ | refine vIfV_of ?_ ?_) <;> intro _ | refine And.intro (by omega) ?_ | refine drawn_q ?_ | fail)
        refine (append_s bc rc _ ⟨#[110, 101, 119]⟩ _ [120] w11 (C10.later q10) GC (by decide) x10 n10 (by simp)).mono ?_
        rintro _ w12 ⟨rfl, _, c12⟩
        have l512 := chg_later (l510.trans q10) c12 hbc hrc
        have S12 := S5.next l512
        have hOs12 := Sl.later hOs5 l512
        have hWs12 := Sl.later hWs l512
        clear l510 q10 C10 c12 x10 n10
        repeat' (first | (simp (disch := omega) only [push_cast, ↓reduceIte, zA, zG, zB, zH, zI, zC, zJ, zK, zL, zD, zE, zF, zM, zN, zO, zP, zQ, reduceCtorEq, not_true_eq_false, not_false_eq_true]) | (first | refine vIfE_of ?_ ?_ | refine vIfD_of ?_ ?_ | refine vIfQ_of ?_ ?_ | refine vIfV_of ?_ ?_) <;> intro _ | refine And.intro (by omega) ?_ | refine drawn_q ?_ | fail)
        refine vc_loop W8_3 (fun k : Nat => [(4, .bool false), (19, .int .i64 (k : Int))]) (fun k w' => k ≤ s.L.length ∧ Later w12 w') (fun k => s.L.length - k) 0 (by decide) ?_ ?_ ?_
        · simp (disch := omega) only [push_cast, ↓reduceIte, zA, zG, zB, zH, zI, zC, zJ, zK, zL, zD, zE, zF, zM, zN, zO, zP, zQ, reduceCtorEq, not_true_eq_false, not_false_eq_true]
          try rfl
        · exact ⟨Nat.zero_le _, Later.refl _⟩
        rintro k u5 w13 ⟨hk', l13⟩
        have hO13 := Sl.later hOs12 l13
        have hW13 := Sl.later hWs12 l13
        have S13 := S12.next l13
        by_cases hkl : k < s.L.length
        · have hd7 : decide ((k : Int) < (s.L.length : Int)) = true := decide_eq_true (by omega)
          obtain ⟨la, rfl⟩ := Sl.some hO13 (i := k) (by simpa using hkl)
          obtain ⟨lw, rfl⟩ := Sl.some hW13 (i := k) (by rw [was_len (Nat.le_refl _)]; exact hkl)
          have hc : w13.cell? (la.add k) = some (.string (s.L[k]).name) := Sl.at hO13 (by simp [hkl])
          have hob := oB_at G2.srd hkl
          repeat' (first | (simp (disch := omega) only [push_cast, ↓reduceIte, zA, zG, zB, zH, zI, zC, zJ, zK, zL, zD, zE, zF, zM, zN, zO, zP, zQ, reduceCtorEq, not_true_eq_false, not_false_eq_true, hd7, hc]) | (first | refine vIfE_of ?_ ?_ | refine vIfD_of ?_ ?_ | refine vIfQ_of ?_ ?_ | refine vIfV_of ?_ ?_) <;> intro _ | refine And.intro (by omega) ?_ | refine drawn_q ?_ | fail)
          refine (read_s bk r s _ w13 S13.v G2).mono ?_
          rintro _ w14 ⟨⟨y, rfl, hy⟩, l14⟩
          rw [hob] at hy
          obtain ⟨yo, yc, rfl⟩ := hy.slice
          have hcw : ∀ w', Later w13 w' → w'.cell? (lw.add k) = some (.string (Go.Vc.strOf (s.L[k]).b)) := fun w' hl => by
            have h1 := StS.atS (i := k) (Sl.later hW13 hl) (by rw [was_len (Nat.le_refl _)]; exact hkl)
            rw [was_at hkl] at h1
            exact h1
          have e9 : decide (Go.Vc.strOf (s.L[k]).b = Go.Vc.strOf (s.L[k]).b) = true := decide_eq_true rfl
          have hcw14 := hcw w14 l14
          repeat' (first | (simp (disch := omega) only [push_cast, ↓reduceIte, zA, zG, zB, zH, zI, zC, zJ, zK, zL, zD, zE, zF, zM, zN, zO, zP, zQ, reduceCtorEq, not_true_eq_false, not_false_eq_true]) | (first | refine vIfE_of ?_ ?_ | refine vIfD_of ?_ ?_ | refine vIfQ_of ?_ ?_ | refine vIfV_of ?_ ?_) <;> intro _ | refine And.intro (by omega) ?_ | refine drawn_q ?_ | fail)
          refine qConv_bytes Try.underlying22 Try.underlying9 Try.underlying5 (by simp (disch := omega) only [push_cast, ↓reduceIte, zA, zG, zB, zH, zI, zC, zJ, zK, zL, zD, zE, zF, zM, zN, zO, zP, zQ, reduceCtorEq, not_true_eq_false, not_false_eq_true]) hy.sl ?_
          repeat' (first | (simp (disch := omega) only [push_cast, ↓reduceIte, zA, zG, zB, zH, zI, zC, zJ, zK, zL, zD, zE, zF, zM, zN, zO, zP, zQ, reduceCtorEq, not_true_eq_false, not_false_eq_true, hcw14, e9]) | (first | refine vIfE_of ?_ ?_ | refine vIfD_of ?_ ?_ | refine vIfQ_of ?_ ?_ | refine vIfV_of ?_ ?_) <;> intro _ | refine And.intro (by omega) ?_ | refine drawn_q ?_ | fail)
          exact fun w15 l15 => ⟨rfl, k + 1, by simp (disch := omega) only [push_cast, ↓reduceIte, zA, zG, zB, zH, zI, zC, zJ, zK, zL, zD, zE, zF, zM, zN, zO, zP, zQ, reduceCtorEq, not_true_eq_false, not_false_eq_true], ⟨by omega, l13.trans (l14.trans l15)⟩, by dsimp only; omega⟩
        · have hd7 : decide ((k : Int) < (s.L.length : Int)) = false := decide_eq_false (by omega)
          repeat' (first | (simp (disch := omega) only [push_cast, ↓reduceIte, zA, zG, zB, zH, zI, zC, zJ, zK, zL, zD, zE, zF, zM, zN, zO, zP, zQ, reduceCtorEq, not_true_eq_false, not_false_eq_true, hd7]) | (first | refine vIfE_of ?_ ?_ | refine vIfD_of ?_ ?_ | refine vIfQ_of ?_ ?_ | refine vIfV_of ?_ ?_) <;> intro _ | refine And.intro (by omega) ?_ | refine drawn_q ?_ | fail)
          refine (alive_c w13).mono ?_
          rintro _ w14 ⟨rfl, l14⟩
          have S14 := S13.next l14
          repeat' (first | (simp (disch := omega) only [push_cast, ↓reduceIte, zA, zG, zB, zH, zI, zC, zJ, zK, zL, zD, zE, zF, zM, zN, zO, zP, zQ, reduceCtorEq, not_true_eq_false, not_false_eq_true]) | (first | refine vIfE_of ?_ ?_ | refine vIfD_of ?_ ?_ | refine vIfQ_of ?_ ?_ | refine vIfV_of ?_ ?_) <;> intro _ | refine And.intro (by omega) ?_ | refine drawn_q ?_ | fail)
          refine (free_s bk r s w14 S14.v G2).mono ?_
          rintro _ w15 ⟨rfl, l15⟩
          have S15 := S14.next l15
          have e8 : decide (s.room - tl s.L = s.room - tl s.L) = true := decide_eq_true rfl
          repeat' (first | (simp (disch := omega) only [push_cast, ↓reduceIte, zA, zG, zB, zH, zI, zC, zJ, zK, zL, zD, zE, zF, zM, zN, zO, zP, zQ, reduceCtorEq, not_true_eq_false, not_false_eq_true, e8]) | (first | refine vIfE_of ?_ ?_ | refine vIfD_of ?_ ?_ | refine vIfQ_of ?_ ?_ | refine vIfV_of ?_ ?_) <;> intro _ | refine And.intro (by omega) ?_ | refine drawn_q ?_ | fail)
          refine (list_s bk r s w15 S15.v G2).mono ?_
          rintro lv w16 ⟨hO16, l16⟩
          have hO16s := OwnN.st hO16
          obtain ⟨zo, zc, rfl⟩ := OwnN.slice hO16
          rw [List.length_map] at hO16s ⊢
          repeat' (first | (simp (disch := omega) only [push_cast, ↓reduceIte, zA, zG, zB, zH, zI, zC, zJ, zK, zL, zD, zE, zF, zM, zN, zO, zP, zQ, reduceCtorEq, not_true_eq_false, not_false_eq_true]) | (first | refine vIfE_of ?_ ?_ | refine vIfD_of ?_ ?_ | refine vIfQ_of ?_ ?_ | refine vIfV_of ?_ ?_) <;> intro _ | refine And.intro (by omega) ?_ | refine drawn_q ?_ | fail)
          refine (texts_c _ _ _ _ w16 hO16s (Sl.later hO13 (l14.trans (l15.trans l16)))).mono ?_
          rintro _ w17 ⟨rfl, l17⟩
          have et : decide (s.L.map Fl.name = s.L.map Fl.name) = true := decide_eq_true rfl
          rw [et]
          repeat' (first | (simp (disch := omega) only [push_cast, ↓reduceIte, zA, zG, zB, zH, zI, zC, zJ, zK, zL, zD, zE, zF, zM, zN, zO, zP, zQ, reduceCtorEq, not_true_eq_false, not_false_eq_true]) | (first | refine vIfE_of ?_ ?_ | refine vIfD_of ?_ ?_ | refine vIfQ_of ?_ ?_ | refine vIfV_of ?_ ?_) <;> intro _ | refine And.intro (by omega) ?_ | refine drawn_q ?_ | fail)
          first | exact ⟨rfl, ((S15.later.trans l16).trans l17)⟩ | exact ((S15.later.trans l16).trans l17)
  have hd2 := decide_eq_true h80
  obtain ⟨a, rfl, fa⟩ := RecS.at acC_len (hs.later S2.later) h1
  have hxi := (hx _ (List.getElem_mem h1))
  have fk : w2.cell? ((a.add (i * 5)).add 0) = some (.int .i64 (l[i]).kind) := RecS.cell acC_len (hs.later S2.later) h1 rfl
  rw [addr_add_zero] at fk
  have hfaA := fun w' (hl : Later w2 w') => RecS.get acC_len (hs.later (S2.later.trans hl)) h1
  have hfkA := fun w' (hl : Later w2 w') => RecS.cell acC_len (hs.later (S2.later.trans hl)) h1 (j := 0) rfl
  generalize l[i] = x at *
  repeat' (first | (simp (disch := omega) only [push_cast, ↓reduceIte, zA, zG, zB, zH, zI, zC, zJ, zK, zL, zD, zE, zF, zM, zN, zO, zP, zQ, reduceCtorEq, not_true_eq_false, not_false_eq_true, hd, hd2, fa]) | (first | refine vIfE_of ?_ ?_ | refine vIfD_of ?_ ?_ | refine vIfQ_of ?_ ?_ | refine vIfV_of ?_ ?_) <;> intro _ | refine And.intro (by omega) ?_ | refine drawn_q ?_ | fail)
  refine (fits_c x w2 (hxi.later S2.later)).mono ?_
  rintro _ w4 ⟨rfl, l4⟩
  have B4 := B2.chg (Chg.of_later (ks := []) l4) (by simp)
  have S4 := S2.next l4
  have fa4 := hfaA w4 l4
  have fk4 : w4.cell? (a.add (i * 5)) = some (.int .i64 x.kind) := by have := hfkA w4 l4; rwa [addr_add_zero] at this
  cases hf : fitB x with
  | false =>
    repeat' (first | (simp (disch := omega) only [push_cast, ↓reduceIte, zA, zG, zB, zH, zI, zC, zJ, zK, zL, zD, zE, zF, zM, zN, zO, zP, zQ, reduceCtorEq, not_true_eq_false, not_false_eq_true, hf]) | (first | refine vIfE_of ?_ ?_ | refine vIfD_of ?_ ?_ | refine vIfQ_of ?_ ?_ | refine vIfV_of ?_ ?_) <;> intro _ | refine And.intro (by omega) ?_ | refine drawn_q ?_ | fail)
    exact ⟨rfl, i + 1, by simp (disch := omega) only [push_cast, ↓reduceIte, zA, zG, zB, zH, zI, zC, zJ, zK, zL, zD, zE, zF, zM, zN, zO, zP, zQ, reduceCtorEq, not_true_eq_false, not_false_eq_true], ⟨by omega, B4, s, S4, G2, hsr⟩, by dsimp only; omega⟩
  | true =>
  by_cases hk4 : x.kind ≤ 4
  case neg =>
    have hd4 := decide_eq_false hk4
    repeat' (first | (simp (disch := omega) only [push_cast, ↓reduceIte, zA, zG, zB, zH, zI, zC, zJ, zK, zL, zD, zE, zF, zM, zN, zO, zP, zQ, reduceCtorEq, not_true_eq_false, not_false_eq_true, fk4, fa4, hd4, addr_add_zero]) | (first | refine vIfE_of ?_ ?_ | refine vIfD_of ?_ ?_ | refine vIfQ_of ?_ ?_ | refine vIfV_of ?_ ?_) <;> intro _ | refine And.intro (by omega) ?_ | refine drawn_q ?_ | fail)
    exact ⟨rfl, i + 1, by simp (disch := omega) only [push_cast, ↓reduceIte, zA, zG, zB, zH, zI, zC, zJ, zK, zL, zD, zE, zF, zM, zN, zO, zP, zQ, reduceCtorEq, not_true_eq_false, not_false_eq_true], ⟨by omega, B4, s, S4, G2, hsr⟩, by dsimp only; omega⟩
  have hd4 := decide_eq_true hk4
  repeat' (first | (simp (disch := omega) only [push_cast, ↓reduceIte, zA, zG, zB, zH, zI, zC, zJ, zK, zL, zD, zE, zF, zM, zN, zO, zP, zQ, reduceCtorEq, not_true_eq_false, not_false_eq_true, fk4, fa4, hd4, addr_add_zero]) | (first | refine vIfE_of ?_ ?_ | refine vIfD_of ?_ ?_ | refine vIfQ_of ?_ ?_ | refine vIfV_of ?_ ?_) <;> intro _ | refine And.intro (by omega) ?_ | refine drawn_q ?_ | fail)
  refine (do_c x bk r s w4 S4.v G2 (hxi.later S4.later) hf (inB_of (w1 := w) hxi.sl hbk)).mono ?_
  rintro _ w6 ⟨rfl, V6, c6⟩
  have G6 := aDo_good G2 x hxi.n.2
  obtain ⟨d1, _, _⟩ := aDo_facts x G2 hk4
  have hbkne : w.heap.size ≠ bk ∧ w.heap.size ≠ r := by omega
  have B6 := B4.chg c6 (by simp; omega)
  have S6 : CS w w6 bk r (aDo x s).2 := ⟨chg_later S4.later c6 hbk hr, V6⟩
  repeat' (first | (simp (disch := omega) only [push_cast, ↓reduceIte, zA, zG, zB, zH, zI, zC, zJ, zK, zL, zD, zE, zF, zM, zN, zO, zP, zQ, reduceCtorEq, not_true_eq_false, not_false_eq_true]) | (first | refine vIfE_of ?_ ?_ | refine vIfD_of ?_ ?_ | refine vIfQ_of ?_ ?_ | refine vIfV_of ?_ ?_) <;> intro _ | refine And.intro (by omega) ?_ | refine drawn_q ?_ | fail)
  exact ⟨rfl, i + 1, by simp (disch := omega) only [push_cast, ↓reduceIte, zA, zG, zB, zH, zI, zC, zJ, zK, zL, zD, zE, zF, zM, zN, zO, zP, zQ, reduceCtorEq, not_true_eq_false, not_false_eq_true], ⟨by omega, B6, _, S6, G6, d1.trans hsr⟩, by dsimp only; omega⟩
theorem own : ownKnob Try.prog.godebug = none := by kernel_rfl
theorem lifted (os : Os) (started : os.Started) (H : Type) (enc : TypeId × Value → H) :
    ReturnsInHanded {} Try.checked os 8 .any (Rows.vaultCopySpec.pre6 enc Try.prog Try.f8 Rows.vaultCopyRow.domain false) (Rows.vaultCopySpec.post enc Try.prog Try.f8 false true false false) := by
  refine lifted_later (C := Try.checked) own started (by kernel_rfl) Try.func8 hb8
    (ChangeSpec.witness6 (enc := enc) (C := Try.checked) false ⟨#[], #[.slice none 0 0, .agg #[.int .i64 0, .int .i64 0, .string ⟨#[]⟩, .string ⟨#[]⟩, .slice none 0 0]], []⟩ 8 (by kernel_rfl) (by kernel_rfl) (by kernel_rfl) (by kernel_rfl))
    (by kernel_rfl) (list_all (by kernel_rfl)) (by kernel_rfl) Try.underlying4 rfl ?_ ?_
  · intro ds h
    have h : ds.length = 2 := h
    match ds, h with
    | [_, _], _ => rfl
  · intro W base args ds p hval0 hA0
    have hval : ∀ (j : Nat) t v, Try.f8.params[j]? = some t → args[j]? = some v → Value.okWide Try.prog W .any base t v := hval0
    have hA : DataW.TrodAll enc Try.prog W 0 (fun _ => true) true Try.f8.params.toList args.toList ds p := hA0
    rw [Try.params8] at hA hval
    obtain ⟨v0, vs0, d0, ds0, p0, q0, hargs, rfl, rfl, h0, r0⟩ := trodAll_cons hA
    obtain ⟨v1, vs1, d1, ds1, p1, q1, rfl, rfl, rfl, h1, r1⟩ := trodAll_cons r0
    obtain ⟨rfl, rfl, rfl⟩ := trodAll_nil r1
    obtain rfl : args = #[v0, v1] := by cases args; simp_all
    obtain ⟨a0, w0⟩ := open_acts (hval 0 35 v0 rfl rfl) h0
    obtain ⟨a1, rfl, w1⟩ := open_act (hval 1 37 v1 rfl rfl) h1
    exact law_c v0 a0 a1 W w0.1 w0.2 w1
theorem over : Rows.vaultCopyRow.holds Try.pinned (OpenSpec.ofChange Rows.vaultCopySpec) :=
  OpenClaim.holds_of_wide 8 Try.f8 rfl rfl rfl rfl rfl rfl rfl ⟨rfl, rfl, rfl, rfl, rfl⟩ rfl rfl rfl rfl rfl (by kernel_rfl) Try.func8 (by kernel_rfl)
    (of_decide_eq_true (by kernel_rfl)) (by unfold Func.isWrapper; first | (rw [if_pos (by decide +kernel)]; kernel_rfl) | (rw [if_neg (by decide +kernel)]; exact ⟨rfl, rfl⟩))
    (fun os started H enc _ => lifted os started H enc)
/-- The statement. -/
theorem proved : Rows.VaultCopySaid :=
  over
end Go.Proofs.Ytmfcnooleejgmaa.vaultCopy
