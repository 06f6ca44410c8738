/- Contracts: texts, lists of texts, rows' keys, held against one another. -/
import Derived.Test.YthihbgpaoldbjaaPartF
set_option linter.all false
open Nat renaming reduceEqDiff → zA, reducePow → zB, reduceMul → zC, reduceAdd → zD, reduceSub → zE, reduceLeDiff → zF
open Int renaming reduceToNat → zG, reducePow → zH, reduceNeg → zI, reduceMul → zJ, reduceAdd → zK, reduceSub → zL, reduceLT → zM, reduceLE → zN, reduceEq → zO, reduceMod → zP, reduceDiv → zQ
section
set_option linter.unusedSimpArgs false
namespace Go.Proofs.Ythihbgpaoldbjaa
open Go.Vc Go.Key
set_option maxRecDepth 100000
abbrev StS (w : World) (v : Value) (l : List ByteArray) : Prop := Sl w v (l.map Value.string)
theorem StS.atS {w : World} {a : Addr} {l : List ByteArray} {n c : Nat} (h : StS w (.slice (some a) n c) l) {i : Nat} (hi : i < l.length) : w.cell? (a.add i) = some (.string l[i]) := Sl.at h (by simp [hi])
@[push_cast] theorem vBinS_gtr {P : Program} {t : TypeId} {x y : Operand} {m n : ByteArray} {K : Value → World → Prop} {w : World} : vBin P .gtr t x y (.string m) (.string n) K w = K (.bool (!(Op.bytesLess m.data.toList n.data.toList || decide (m = n)))) w := mk_eq rfl
theorem nanS_c (s : ByteArray) (w : World) : FnC Try.prog 111 #[.string s] w fun r w' => r = .bool false ∧ w' = w := by
  refine enter111 _ ?_
  unfold B111
  repeat' (first | (simp (disch := omega) only [push_cast, ↓reduceIte, zA, zG, zB, zH, zI, zC, zJ, zK, zL, zD, zE, zF, zM, zN, zO, zP, zQ, reduceCtorEq, not_true_eq_false, not_false_eq_true, decide_true, Bool.not_true]) | (first | refine vIfE_of ?_ ?_ | refine vIfD_of ?_ ?_ | refine vIfQ_of ?_ ?_ | refine vIfV_of ?_ ?_) <;> intro _ | refine And.intro (by omega) ?_ | refine drawn_q ?_ | fail)
  all_goals simp
theorem nanI_c (n : Int) (w : World) : FnC Try.prog 101 #[.int .i64 n] w fun r w' => r = .bool false ∧ w' = w := by
  refine enter101 _ ?_
  unfold B101
  repeat' (first | (simp (disch := omega) only [push_cast, ↓reduceIte, zA, zG, zB, zH, zI, zC, zJ, zK, zL, zD, zE, zF, zM, zN, zO, zP, zQ, reduceCtorEq, not_true_eq_false, not_false_eq_true, decide_true, Bool.not_true]) | (first | refine vIfE_of ?_ ?_ | refine vIfD_of ?_ ?_ | refine vIfQ_of ?_ ?_ | refine vIfV_of ?_ ?_) <;> intro _ | refine And.intro (by omega) ?_ | refine drawn_q ?_ | fail)
  all_goals simp
theorem cmpS_c (a b : ByteArray) (w : World) : FnC Try.prog 102 #[.string a, .string b] w fun r w' => r = .int .i64 (cstr a b) ∧ w' = w := by
  refine enter102 _ _ ?_
  unfold B102
  repeat' (first | (simp (disch := omega) only [push_cast, ↓reduceIte, zA, zG, zB, zH, zI, zC, zJ, zK, zL, zD, zE, zF, zM, zN, zO, zP, zQ, reduceCtorEq, not_true_eq_false, not_false_eq_true]) | (first | refine vIfE_of ?_ ?_ | refine vIfD_of ?_ ?_ | refine vIfQ_of ?_ ?_ | refine vIfV_of ?_ ?_) <;> intro _ | refine And.intro (by omega) ?_ | refine drawn_q ?_ | fail)
  refine (nanS_c a w).mono ?_
  rintro _ w0 ⟨rfl, h0⟩; obtain rfl := h0.symm
  repeat' (first | (simp (disch := omega) only [push_cast, ↓reduceIte, zA, zG, zB, zH, zI, zC, zJ, zK, zL, zD, zE, zF, zM, zN, zO, zP, zQ, reduceCtorEq, not_true_eq_false, not_false_eq_true]) | (first | refine vIfE_of ?_ ?_ | refine vIfD_of ?_ ?_ | refine vIfQ_of ?_ ?_ | refine vIfV_of ?_ ?_) <;> intro _ | refine And.intro (by omega) ?_ | refine drawn_q ?_ | fail)
  refine (nanS_c b w).mono ?_
  rintro _ w0 ⟨rfl, h0⟩; obtain rfl := h0.symm
  rcases blt_tri a b with ⟨h1, h2, h3⟩ | ⟨h1, h2⟩ | ⟨h1, h2, h3⟩
  · have h1' : Op.bytesLess a.data.toList b.data.toList = true := h1
    have e : cstr a b = -1 := by simp [cstr, h1]
    repeat' (first | (simp (disch := omega) only [push_cast, ↓reduceIte, zA, zG, zB, zH, zI, zC, zJ, zK, zL, zD, zE, zF, zM, zN, zO, zP, zQ, reduceCtorEq, not_true_eq_false, not_false_eq_true, h1']) | (first | refine vIfE_of ?_ ?_ | refine vIfD_of ?_ ?_ | refine vIfQ_of ?_ ?_ | refine vIfV_of ?_ ?_) <;> intro _ | refine And.intro (by omega) ?_ | refine drawn_q ?_ | fail)
    simp [e]
  · subst h1
    have h2' : Op.bytesLess a.data.toList a.data.toList = false := h2
    have e : cstr a a = 0 := by simp [cstr, h2]
    repeat' (first | (simp (disch := omega) only [push_cast, ↓reduceIte, zA, zG, zB, zH, zI, zC, zJ, zK, zL, zD, zE, zF, zM, zN, zO, zP, zQ, reduceCtorEq, not_true_eq_false, not_false_eq_true, h2', decide_true, Bool.or_true, Bool.false_or, Bool.not_true]) | (first | refine vIfE_of ?_ ?_ | refine vIfD_of ?_ ?_ | refine vIfQ_of ?_ ?_ | refine vIfV_of ?_ ?_) <;> intro _ | refine And.intro (by omega) ?_ | refine drawn_q ?_ | fail)
    simp [e]
  · have h1' : Op.bytesLess a.data.toList b.data.toList = false := h1
    have h4 : decide (a = b) = false := decide_eq_false h3
    have e : cstr a b = 1 := by simp [cstr, h1, h3]
    repeat' (first | (simp (disch := omega) only [push_cast, ↓reduceIte, zA, zG, zB, zH, zI, zC, zJ, zK, zL, zD, zE, zF, zM, zN, zO, zP, zQ, reduceCtorEq, not_true_eq_false, not_false_eq_true, h1', h4, Bool.or_false, Bool.false_or, Bool.not_false]) | (first | refine vIfE_of ?_ ?_ | refine vIfD_of ?_ ?_ | refine vIfQ_of ?_ ?_ | refine vIfV_of ?_ ?_) <;> intro _ | refine And.intro (by omega) ?_ | refine drawn_q ?_ | fail)
    simp [e]
theorem cmpI_c (a b : Int) (w : World) : FnC Try.prog 72 #[.int .i64 a, .int .i64 b] w fun r w' => r = .int .i64 (if a < b then -1 else if b < a then 1 else 0) ∧ w' = w := by
  refine enter72 _ _ ?_
  unfold B72
  repeat' (first | (simp (disch := omega) only [push_cast, ↓reduceIte, zA, zG, zB, zH, zI, zC, zJ, zK, zL, zD, zE, zF, zM, zN, zO, zP, zQ, reduceCtorEq, not_true_eq_false, not_false_eq_true]) | (first | refine vIfE_of ?_ ?_ | refine vIfD_of ?_ ?_ | refine vIfQ_of ?_ ?_ | refine vIfV_of ?_ ?_) <;> intro _ | refine And.intro (by omega) ?_ | refine drawn_q ?_ | fail)
  refine (nanI_c a w).mono ?_
  rintro _ w0 ⟨rfl, h0⟩; obtain rfl := h0.symm
  repeat' (first | (simp (disch := omega) only [push_cast, ↓reduceIte, zA, zG, zB, zH, zI, zC, zJ, zK, zL, zD, zE, zF, zM, zN, zO, zP, zQ, reduceCtorEq, not_true_eq_false, not_false_eq_true]) | (first | refine vIfE_of ?_ ?_ | refine vIfD_of ?_ ?_ | refine vIfQ_of ?_ ?_ | refine vIfV_of ?_ ?_) <;> intro _ | refine And.intro (by omega) ?_ | refine drawn_q ?_ | fail)
  refine (nanI_c b w).mono ?_
  rintro _ w0 ⟨rfl, h0⟩; obtain rfl := h0.symm
  by_cases h1 : a < b
  · repeat' (first | (simp (disch := omega) only [push_cast, ↓reduceIte, zA, zG, zB, zH, zI, zC, zJ, zK, zL, zD, zE, zF, zM, zN, zO, zP, zQ, reduceCtorEq, not_true_eq_false, not_false_eq_true]) | (first | refine vIfE_of ?_ ?_ | refine vIfD_of ?_ ?_ | refine vIfQ_of ?_ ?_ | refine vIfV_of ?_ ?_) <;> intro _ | refine And.intro (by omega) ?_ | refine drawn_q ?_ | fail)
    simp [h1]
  · by_cases h2 : b < a
    · repeat' (first | (simp (disch := omega) only [push_cast, ↓reduceIte, zA, zG, zB, zH, zI, zC, zJ, zK, zL, zD, zE, zF, zM, zN, zO, zP, zQ, reduceCtorEq, not_true_eq_false, not_false_eq_true]) | (first | refine vIfE_of ?_ ?_ | refine vIfD_of ?_ ?_ | refine vIfQ_of ?_ ?_ | refine vIfV_of ?_ ?_) <;> intro _ | refine And.intro (by omega) ?_ | refine drawn_q ?_ | fail)
      simp [h1, h2]
    · repeat' (first | (simp (disch := omega) only [push_cast, ↓reduceIte, zA, zG, zB, zH, zI, zC, zJ, zK, zL, zD, zE, zF, zM, zN, zO, zP, zQ, reduceCtorEq, not_true_eq_false, not_false_eq_true]) | (first | refine vIfE_of ?_ ?_ | refine vIfD_of ?_ ?_ | refine vIfQ_of ?_ ?_ | refine vIfV_of ?_ ?_) <;> intro _ | refine And.intro (by omega) ?_ | refine drawn_q ?_ | fail)
      simp [h1, h2]
theorem cmpOr_c (x y : Int) (v : Value) (w : World) (h : Sl w v (([x, y] : List Int).map i64v)) : FnC Try.prog 71 #[v] w fun r w' => r = .int .i64 (if x = 0 then y else x) ∧ w' = w := by
  obtain ⟨o, c, rfl, g1, g2, h, g3⟩ := h.openM
  have hL : ([x, y] : List Int).length = 2 := rfl
  rw [hL] at h g1
  obtain ⟨a, rfl⟩ := h.some (i := 0) (by simp)
  have c0 : w.cell? a = some (.int .i64 x) := by simpa [addr_add_zero] using h.atI (i := 0) (by simp)
  have c1 : w.cell? (a.add 1) = some (.int .i64 y) := h.atI (i := 1) (by simp)
  rw [hL]
  clear hL
  refine enter71 _ ?_
  unfold B71
  repeat' (first | (simp (disch := omega) only [push_cast, ↓reduceIte, zA, zG, zB, zH, zI, zC, zJ, zK, zL, zD, zE, zF, zM, zN, zO, zP, zQ, reduceCtorEq, not_true_eq_false, not_false_eq_true]) | (first | refine vIfE_of ?_ ?_ | refine vIfD_of ?_ ?_ | refine vIfQ_of ?_ ?_ | refine vIfV_of ?_ ?_) <;> intro _ | refine And.intro (by omega) ?_ | refine drawn_q ?_ | fail)
  refine vc_loop W71_0 (fun i : Nat => [(2, .int .i64 0), (8, .int .i64 (i : Int))]) (fun i w' => i ≤ 2 ∧ w' = w ∧ (1 ≤ i → x = 0) ∧ (2 ≤ i → y = 0)) (fun i => 2 - i) 0 (by decide) ?_ ?_ ?_
  · simp (disch := omega) only [push_cast, ↓reduceIte, zA, zG, zB, zH, zI, zC, zJ, zK, zL, zD, zE, zF, zM, zN, zO, zP, zQ, reduceCtorEq, not_true_eq_false, not_false_eq_true]
  · exact ⟨by omega, rfl, by omega, by omega⟩
  rintro i uu w1 ⟨hi, hw, hx, hy⟩
  obtain rfl := hw.symm
  match i, hi with
  | 0, _ =>
    by_cases h0 : x = 0
    · subst h0
      repeat' (first | (simp (disch := omega) only [push_cast, ↓reduceIte, zA, zG, zB, zH, zI, zC, zJ, zK, zL, zD, zE, zF, zM, zN, zO, zP, zQ, reduceCtorEq, not_true_eq_false, not_false_eq_true, c0]) | (first | refine vIfE_of ?_ ?_ | refine vIfD_of ?_ ?_ | refine vIfQ_of ?_ ?_ | refine vIfV_of ?_ ?_) <;> intro _ | refine And.intro (by omega) ?_ | refine drawn_q ?_ | fail)
      exact ⟨rfl, 1, by simp (disch := omega) only [push_cast, ↓reduceIte, zA, zG, zB, zH, zI, zC, zJ, zK, zL, zD, zE, zF, zM, zN, zO, zP, zQ, reduceCtorEq, not_true_eq_false, not_false_eq_true], ⟨by omega, rfl, by simp, by simp⟩, by dsimp only; omega⟩
    · repeat' (first | (simp (disch := omega) only [push_cast, ↓reduceIte, zA, zG, zB, zH, zI, zC, zJ, zK, zL, zD, zE, zF, zM, zN, zO, zP, zQ, reduceCtorEq, not_true_eq_false, not_false_eq_true, c0]) | (first | refine vIfE_of ?_ ?_ | refine vIfD_of ?_ ?_ | refine vIfQ_of ?_ ?_ | refine vIfV_of ?_ ?_) <;> intro _ | refine And.intro (by omega) ?_ | refine drawn_q ?_ | fail)
      simp [h0]
  | 1, _ =>
    have hx := hx (by omega)
    subst hx
    by_cases h0 : y = 0
    · subst h0
      repeat' (first | (simp (disch := omega) only [push_cast, ↓reduceIte, zA, zG, zB, zH, zI, zC, zJ, zK, zL, zD, zE, zF, zM, zN, zO, zP, zQ, reduceCtorEq, not_true_eq_false, not_false_eq_true, c1]) | (first | refine vIfE_of ?_ ?_ | refine vIfD_of ?_ ?_ | refine vIfQ_of ?_ ?_ | refine vIfV_of ?_ ?_) <;> intro _ | refine And.intro (by omega) ?_ | refine drawn_q ?_ | fail)
      exact ⟨rfl, 2, by simp (disch := omega) only [push_cast, ↓reduceIte, zA, zG, zB, zH, zI, zC, zJ, zK, zL, zD, zE, zF, zM, zN, zO, zP, zQ, reduceCtorEq, not_true_eq_false, not_false_eq_true], ⟨by omega, rfl, by simp, by simp⟩, by dsimp only; omega⟩
    · repeat' (first | (simp (disch := omega) only [push_cast, ↓reduceIte, zA, zG, zB, zH, zI, zC, zJ, zK, zL, zD, zE, zF, zM, zN, zO, zP, zQ, reduceCtorEq, not_true_eq_false, not_false_eq_true, c1]) | (first | refine vIfE_of ?_ ?_ | refine vIfD_of ?_ ?_ | refine vIfQ_of ?_ ?_ | refine vIfV_of ?_ ?_) <;> intro _ | refine And.intro (by omega) ?_ | refine drawn_q ?_ | fail)
      all_goals simp
  | 2, _ =>
    have hx := hx (by omega)
    have hy := hy (by omega)
    subst hx
    subst hy
    repeat' (first | (simp (disch := omega) only [push_cast, ↓reduceIte, zA, zG, zB, zH, zI, zC, zJ, zK, zL, zD, zE, zF, zM, zN, zO, zP, zQ, reduceCtorEq, not_true_eq_false, not_false_eq_true]) | (first | refine vIfE_of ?_ ?_ | refine vIfD_of ?_ ?_ | refine vIfQ_of ?_ ?_ | refine vIfV_of ?_ ?_) <;> intro _ | refine And.intro (by omega) ?_ | refine drawn_q ?_ | fail)
    all_goals simp
theorem clist_step {a b : List ByteArray} {i : Nat} (ha : i < a.length) (hb : i < b.length) : clist (a.drop i) (b.drop i) = if cstr a[i] b[i] = 0 then clist (a.drop (i + 1)) (b.drop (i + 1)) else cstr a[i] b[i] := by
  rw [List.drop_eq_getElem_cons ha, List.drop_eq_getElem_cons hb, clist]
theorem clist_l {a b : List ByteArray} {i : Nat} (ha : i < a.length) (hb : b.length ≤ i) : clist (a.drop i) (b.drop i) = 1 := by
  rw [List.drop_eq_getElem_cons ha, List.drop_eq_nil_of_le hb, clist]
theorem clist_r {a b : List ByteArray} {i : Nat} (ha : a.length ≤ i) (hb : i < b.length) : clist (a.drop i) (b.drop i) = -1 := by
  rw [List.drop_eq_getElem_cons hb, List.drop_eq_nil_of_le ha, clist]
theorem clist_n {a b : List ByteArray} {i : Nat} (ha : a.length ≤ i) (hb : b.length ≤ i) : clist (a.drop i) (b.drop i) = 0 := by
  rw [List.drop_eq_nil_of_le hb, List.drop_eq_nil_of_le ha, clist]
theorem scmp_c (u v : Value) (a b : List ByteArray) (w : World) (hu : StS w u a) (hv : StS w v b) : FnC Try.prog 73 #[u, v] w fun r w' => r = .int .i64 (clist a b) ∧ w' = w := by
  obtain ⟨oa, ca, rfl, g1, g2, hu, g3⟩ := hu.openM
  obtain ⟨ob, cb, rfl, k1, k2, hv, k3⟩ := hv.openM
  refine enter73 _ _ ?_
  unfold B73
  repeat' (first | (simp (disch := omega) only [push_cast, ↓reduceIte, zA, zG, zB, zH, zI, zC, zJ, zK, zL, zD, zE, zF, zM, zN, zO, zP, zQ, reduceCtorEq, not_true_eq_false, not_false_eq_true]) | (first | refine vIfE_of ?_ ?_ | refine vIfD_of ?_ ?_ | refine vIfQ_of ?_ ?_ | refine vIfV_of ?_ ?_) <;> intro _ | refine And.intro (by omega) ?_ | refine drawn_q ?_ | fail)
  refine vc_loop W73_0 (fun i : Nat => [(4, .int .i64 0), (11, .int .i64 (i : Int))])
    (fun i w' => i ≤ a.length ∧ i ≤ b.length ∧ w' = w ∧ clist (a.drop i) (b.drop i) = clist a b) (fun i => a.length - i) 0 (by decide) ?_ ?_ ?_
  · simp (disch := omega) only [push_cast, ↓reduceIte, zA, zG, zB, zH, zI, zC, zJ, zK, zL, zD, zE, zF, zM, zN, zO, zP, zQ, reduceCtorEq, not_true_eq_false, not_false_eq_true]
  · exact ⟨by omega, by omega, rfl, by simp⟩
  rintro i uu w0 ⟨hi, hib, hw, he⟩
  obtain rfl := hw.symm
  by_cases ha : i < a.length
  · obtain ⟨aa, rfl⟩ := hu.some ha
    have c1 := StS.atS hu ha
    by_cases hb : i < b.length
    · obtain ⟨bb, rfl⟩ := hv.some hb
      have c2 := StS.atS hv hb
      rw [clist_step ha hb] at he
      repeat' (first | (simp (disch := omega) only [push_cast, ↓reduceIte, zA, zG, zB, zH, zI, zC, zJ, zK, zL, zD, zE, zF, zM, zN, zO, zP, zQ, reduceCtorEq, not_true_eq_false, not_false_eq_true, c1, c2]) | (first | refine vIfE_of ?_ ?_ | refine vIfD_of ?_ ?_ | refine vIfQ_of ?_ ?_ | refine vIfV_of ?_ ?_) <;> intro _ | refine And.intro (by omega) ?_ | refine drawn_q ?_ | fail)
      refine (cmpS_c _ _ w).mono ?_
      rintro _ w0 ⟨rfl, h0⟩; obtain rfl := h0.symm
      by_cases h0 : cstr a[i] b[i] = 0
      · rw [if_pos h0] at he
        repeat' (first | (simp (disch := omega) only [push_cast, ↓reduceIte, zA, zG, zB, zH, zI, zC, zJ, zK, zL, zD, zE, zF, zM, zN, zO, zP, zQ, reduceCtorEq, not_true_eq_false, not_false_eq_true, h0]) | (first | refine vIfE_of ?_ ?_ | refine vIfD_of ?_ ?_ | refine vIfQ_of ?_ ?_ | refine vIfV_of ?_ ?_) <;> intro _ | refine And.intro (by omega) ?_ | refine drawn_q ?_ | fail)
        exact ⟨rfl, i + 1, by simp (disch := omega) only [push_cast, ↓reduceIte, zA, zG, zB, zH, zI, zC, zJ, zK, zL, zD, zE, zF, zM, zN, zO, zP, zQ, reduceCtorEq, not_true_eq_false, not_false_eq_true], ⟨by omega, by omega, rfl, he⟩, by dsimp only; omega⟩
      · rw [if_neg h0] at he
        repeat' (first | (simp (disch := omega) only [push_cast, ↓reduceIte, zA, zG, zB, zH, zI, zC, zJ, zK, zL, zD, zE, zF, zM, zN, zO, zP, zQ, reduceCtorEq, not_true_eq_false, not_false_eq_true]) | (first | refine vIfE_of ?_ ?_ | refine vIfD_of ?_ ?_ | refine vIfQ_of ?_ ?_ | refine vIfV_of ?_ ?_) <;> intro _ | refine And.intro (by omega) ?_ | refine drawn_q ?_ | fail)
        simp [he]
    · have hb' : b.length ≤ i := by omega
      rw [clist_l ha hb'] at he
      repeat' (first | (simp (disch := omega) only [push_cast, ↓reduceIte, zA, zG, zB, zH, zI, zC, zJ, zK, zL, zD, zE, zF, zM, zN, zO, zP, zQ, reduceCtorEq, not_true_eq_false, not_false_eq_true, c1]) | (first | refine vIfE_of ?_ ?_ | refine vIfD_of ?_ ?_ | refine vIfQ_of ?_ ?_ | refine vIfV_of ?_ ?_) <;> intro _ | refine And.intro (by omega) ?_ | refine drawn_q ?_ | fail)
      simp [← he]
  · by_cases hb : i < b.length
    · rw [clist_r (by omega) hb] at he
      repeat' (first | (simp (disch := omega) only [push_cast, ↓reduceIte, zA, zG, zB, zH, zI, zC, zJ, zK, zL, zD, zE, zF, zM, zN, zO, zP, zQ, reduceCtorEq, not_true_eq_false, not_false_eq_true]) | (first | refine vIfE_of ?_ ?_ | refine vIfD_of ?_ ?_ | refine vIfQ_of ?_ ?_ | refine vIfV_of ?_ ?_) <;> intro _ | refine And.intro (by omega) ?_ | refine drawn_q ?_ | fail)
      simp [← he]
    · rw [clist_n (by omega) (by omega)] at he
      repeat' (first | (simp (disch := omega) only [push_cast, ↓reduceIte, zA, zG, zB, zH, zI, zC, zJ, zK, zL, zD, zE, zF, zM, zN, zO, zP, zQ, reduceCtorEq, not_true_eq_false, not_false_eq_true]) | (first | refine vIfE_of ?_ ?_ | refine vIfD_of ?_ ?_ | refine vIfQ_of ?_ ?_ | refine vIfV_of ?_ ?_) <;> intro _ | refine And.intro (by omega) ?_ | refine drawn_q ?_ | fail)
      simp [← he]
theorem texts_c (u v : Value) (a b : List ByteArray) (w : World) (hu : StS w u a) (hv : StS w v b) : FnC Try.prog 21 #[u, v] w fun r w' => r = .bool (decide (a = b)) ∧ Later w w' := by
  obtain ⟨oa, ca, rfl, g1, g2, hu, g3⟩ := hu.openM
  obtain ⟨ob, cb, rfl, k1, k2, hv, k3⟩ := hv.openM
  refine enter21 _ _ ?_
  unfold B21
  by_cases hlen : a.length = b.length
  · repeat' (first | (simp (disch := omega) only [push_cast, ↓reduceIte, zA, zG, zB, zH, zI, zC, zJ, zK, zL, zD, zE, zF, zM, zN, zO, zP, zQ, reduceCtorEq, not_true_eq_false, not_false_eq_true]) | (first | refine vIfE_of ?_ ?_ | refine vIfD_of ?_ ?_ | refine vIfQ_of ?_ ?_ | refine vIfV_of ?_ ?_) <;> intro _ | refine And.intro (by omega) ?_ | refine drawn_q ?_ | fail)
    refine vc_loop W21_0 (fun i : Nat => [(4, .bool false), (5, .int .i64 (i : Int))])
      (fun i w' => i ≤ a.length ∧ Later w w' ∧ a.take i = b.take i) (fun i => a.length - i) 0 (by decide) ?_ ?_ ?_
    · simp (disch := omega) only [push_cast, ↓reduceIte, zA, zG, zB, zH, zI, zC, zJ, zK, zL, zD, zE, zF, zM, zN, zO, zP, zQ, reduceCtorEq, not_true_eq_false, not_false_eq_true]
    · exact ⟨by omega, Later.refl _, by simp⟩
    rintro i uu w0 ⟨hi, hl, he⟩
    by_cases ha : i < a.length
    · have hb : i < b.length := by omega
      obtain ⟨aa, rfl⟩ := hu.some ha
      obtain ⟨bb, rfl⟩ := hv.some hb
      have c1 := StS.atS (hu.later hl) ha
      have c2 := StS.atS (hv.later hl) hb
      by_cases hab : a[i] = b[i]
      · repeat' (first | (simp (disch := omega) only [push_cast, ↓reduceIte, zA, zG, zB, zH, zI, zC, zJ, zK, zL, zD, zE, zF, zM, zN, zO, zP, zQ, reduceCtorEq, not_true_eq_false, not_false_eq_true, c1, c2, hab, decide_true, Bool.not_true]) | (first | refine vIfE_of ?_ ?_ | refine vIfD_of ?_ ?_ | refine vIfQ_of ?_ ?_ | refine vIfV_of ?_ ?_) <;> intro _ | refine And.intro (by omega) ?_ | refine drawn_q ?_ | fail)
        intro w1 hl1
        repeat' (first | (simp (disch := omega) only [push_cast, ↓reduceIte, zA, zG, zB, zH, zI, zC, zJ, zK, zL, zD, zE, zF, zM, zN, zO, zP, zQ, reduceCtorEq, not_true_eq_false, not_false_eq_true]) | (first | refine vIfE_of ?_ ?_ | refine vIfD_of ?_ ?_ | refine vIfQ_of ?_ ?_ | refine vIfV_of ?_ ?_) <;> intro _ | refine And.intro (by omega) ?_ | refine drawn_q ?_ | fail)
        refine ⟨rfl, i + 1, by simp (disch := omega) only [push_cast, ↓reduceIte, zA, zG, zB, zH, zI, zC, zJ, zK, zL, zD, zE, zF, zM, zN, zO, zP, zQ, reduceCtorEq, not_true_eq_false, not_false_eq_true], ⟨by omega, hl.trans hl1, ?_⟩, by simp; omega⟩
        rw [take_snoc a i ha, take_snoc b i hb, he, hab]
      · have hne : a ≠ b := fun e => by subst e; exact hab rfl
        repeat' (first | (simp (disch := omega) only [push_cast, ↓reduceIte, zA, zG, zB, zH, zI, zC, zJ, zK, zL, zD, zE, zF, zM, zN, zO, zP, zQ, reduceCtorEq, not_true_eq_false, not_false_eq_true, c1, c2, hab, decide_false, Bool.not_false]) | (first | refine vIfE_of ?_ ?_ | refine vIfD_of ?_ ?_ | refine vIfQ_of ?_ ?_ | refine vIfV_of ?_ ?_) <;> intro _ | refine And.intro (by omega) ?_ | refine drawn_q ?_ | fail)
        intro w1 hl1
        repeat' (first | (simp (disch := omega) only [push_cast, ↓reduceIte, zA, zG, zB, zH, zI, zC, zJ, zK, zL, zD, zE, zF, zM, zN, zO, zP, zQ, reduceCtorEq, not_true_eq_false, not_false_eq_true]) | (first | refine vIfE_of ?_ ?_ | refine vIfD_of ?_ ?_ | refine vIfQ_of ?_ ?_ | refine vIfV_of ?_ ?_) <;> intro _ | refine And.intro (by omega) ?_ | refine drawn_q ?_ | fail)
        simp [hne, hl.trans hl1]
    · have e : i = a.length := by omega
      subst e
      rw [List.take_length, hlen, List.take_length] at he
      repeat' (first | (simp (disch := omega) only [push_cast, ↓reduceIte, zA, zG, zB, zH, zI, zC, zJ, zK, zL, zD, zE, zF, zM, zN, zO, zP, zQ, reduceCtorEq, not_true_eq_false, not_false_eq_true]) | (first | refine vIfE_of ?_ ?_ | refine vIfD_of ?_ ?_ | refine vIfQ_of ?_ ?_ | refine vIfV_of ?_ ?_) <;> intro _ | refine And.intro (by omega) ?_ | refine drawn_q ?_ | fail)
      simp [he, hl]
  · have hne : a ≠ b := fun e => by subst e; exact hlen rfl
    repeat' (first | (simp (disch := omega) only [push_cast, ↓reduceIte, zA, zG, zB, zH, zI, zC, zJ, zK, zL, zD, zE, zF, zM, zN, zO, zP, zQ, reduceCtorEq, not_true_eq_false, not_false_eq_true]) | (first | refine vIfE_of ?_ ?_ | refine vIfD_of ?_ ?_ | refine vIfQ_of ?_ ?_ | refine vIfV_of ?_ ?_) <;> intro _ | refine And.intro (by omega) ?_ | refine drawn_q ?_ | fail)
    simp [hne, Later.refl]
end Go.Proofs.Ythihbgpaoldbjaa
end
section
set_option linter.unusedSimpArgs false
namespace Go.Proofs.Ythihbgpaoldbjaa
open Go.Vc Go.Key
set_option maxRecDepth 100000
/-- A row, and where its lists lie. -/
structure El where
  t : Int
  d : List ByteArray
  n : Int
  a : List Ag
  dv : Value
  av : Value
instance : Inhabited El := ⟨⟨0, [], 0, [], .slice none 0 0, .slice none 0 0⟩⟩
def elC (e : El) : List Value := [.int .i64 e.t, e.dv, .int .i64 e.n, e.av]
def elV (e : El) : Value := .agg #[.int .i64 e.t, e.dv, .int .i64 e.n, e.av]
theorem elC_len (e : El) : (elC e).length = 4 := rfl
def EIs (w : World) (e : El) : Prop := StS w e.dv e.d ∧ AgS w e.av e.a
theorem EIs.later {w w' : World} {e : El} (h : EIs w e) (hl : Later w w') : EIs w' e := ⟨Sl.later h.1 hl, RecS.later h.2 hl⟩
def ecmp (x y : El) : Int := ckey x.t x.d y.t y.d
def elt (x y : El) : Bool := decide (ecmp x y < 0)
theorem elt_swo : Stab.Swo elt := swo_key El.t El.d
theorem box4 (w : World) (a b c d : Value) (e : TypeId) : (w.alloc (.cells #[a, b, c, d] e)).cell? ⟨w.heap.size, 0, none⟩ = some a ∧ (w.alloc (.cells #[a, b, c, d] e)).cell? ⟨w.heap.size, 1, none⟩ = some b ∧ (w.alloc (.cells #[a, b, c, d] e)).cell? ⟨w.heap.size, 2, none⟩ = some c ∧ (w.alloc (.cells #[a, b, c, d] e)).cell? ⟨w.heap.size, 3, none⟩ = some d ∧ cellsAt (w.alloc (.cells #[a, b, c, d] e)) ⟨w.heap.size, 0, none⟩ 4 = some [a, b, c, d] :=
  ⟨(Blk.new w #[a, b, c, d] e).cell 0, (Blk.new w #[a, b, c, d] e).cell 1, (Blk.new w #[a, b, c, d] e).cell 2, (Blk.new w #[a, b, c, d] e).cell 3, Blk.cellsAt (l := [a, b, c, d]) (Blk.new w #[a, b, c, d] e)⟩
theorem box4_later {w w' : World} {k : Nat} {a b c d : Value} {e : TypeId} (h : Blk w k #[a, b, c, d] e) (hl : Later w w') : w'.cell? ⟨k, 0, none⟩ = some a ∧ w'.cell? ⟨k, 1, none⟩ = some b ∧ w'.cell? ⟨k, 2, none⟩ = some c ∧ w'.cell? ⟨k, 3, none⟩ = some d ∧ cellsAt w' ⟨k, 0, none⟩ 4 = some [a, b, c, d] := by
  have := h.chg (Chg.of_later (ks := []) hl) (by simp)
  exact ⟨this.cell 0, this.cell 1, this.cell 2, this.cell 3, Blk.cellsAt (l := [a, b, c, d]) this⟩
/-- Two rows that came as values: their boxes. -/
theorem boxes (w : World) (x y : El) (hx : EIs w x) (hy : EIs w y) : Later w ((w.alloc (.cells #[.int .i64 x.t, x.dv, .int .i64 x.n, x.av] 35)).alloc (.cells #[.int .i64 y.t, y.dv, .int .i64 y.n, y.av] 35)) ∧ (∀ w', Later ((w.alloc (.cells #[.int .i64 x.t, x.dv, .int .i64 x.n, x.av] 35)).alloc (.cells #[.int .i64 y.t, y.dv, .int .i64 y.n, y.av] 35)) w' → EIs w' x ∧ EIs w' y ∧ Blk w' w.heap.size (elC x).toArray 35 ∧ Blk w' (w.heap.size + 1) (elC y).toArray 35 ∧
      w'.cell? ⟨w.heap.size, 0, none⟩ = some (.int .i64 x.t) ∧ w'.cell? ⟨w.heap.size, 1, none⟩ = some x.dv ∧ w'.cell? ⟨w.heap.size, 2, none⟩ = some (.int .i64 x.n) ∧ w'.cell? ⟨w.heap.size, 3, none⟩ = some x.av ∧ cellsAt w' ⟨w.heap.size, 0, none⟩ 4 = some (elC x) ∧
      w'.cell? ⟨w.heap.size + 1, 0, none⟩ = some (.int .i64 y.t) ∧ w'.cell? ⟨w.heap.size + 1, 1, none⟩ = some y.dv ∧ w'.cell? ⟨w.heap.size + 1, 2, none⟩ = some (.int .i64 y.n) ∧ w'.cell? ⟨w.heap.size + 1, 3, none⟩ = some y.av ∧ cellsAt w' ⟨w.heap.size + 1, 0, none⟩ 4 = some (elC y)) ∧ ((w.alloc (.cells #[.int .i64 x.t, x.dv, .int .i64 x.n, x.av] 35)).alloc (.cells #[.int .i64 y.t, y.dv, .int .i64 y.n, y.av] 35)).heap.size = w.heap.size + 2 := by
  have l1 := later_alloc w (.cells #[.int .i64 x.t, x.dv, .int .i64 x.n, x.av] 35)
  have B1 := Blk.new w #[.int .i64 x.t, x.dv, .int .i64 x.n, x.av] 35
  have s1 : (w.alloc (.cells #[.int .i64 x.t, x.dv, .int .i64 x.n, x.av] 35)).heap.size = w.heap.size + 1 := World.size_alloc w _
  generalize w.alloc (.cells #[.int .i64 x.t, x.dv, .int .i64 x.n, x.av] 35) = w1 at *
  have l2 := later_alloc w1 (.cells #[.int .i64 y.t, y.dv, .int .i64 y.n, y.av] 35)
  have B2 := Blk.new w1 #[.int .i64 y.t, y.dv, .int .i64 y.n, y.av] 35
  have s2 : (w1.alloc (.cells #[.int .i64 y.t, y.dv, .int .i64 y.n, y.av] 35)).heap.size = w1.heap.size + 1 := World.size_alloc w1 _
  generalize w1.alloc (.cells #[.int .i64 y.t, y.dv, .int .i64 y.n, y.av] 35) = w2 at *
  rw [s1] at B2
  refine ⟨l1.trans l2, fun w' hl => ?_, by omega⟩
  obtain ⟨a0, a1, a2, a3, a4⟩ := box4_later B1 (l2.trans hl)
  obtain ⟨b0, b1, b2, b3, b4⟩ := box4_later B2 hl
  exact ⟨hx.later ((l1.trans l2).trans hl), hy.later ((l1.trans l2).trans hl), B1.chg (Chg.of_later (ks := []) (l2.trans hl)) (by simp), B2.chg (Chg.of_later (ks := []) hl) (by simp), a0, a1, a2, a3, a4, b0, b1, b2, b3, b4⟩
theorem rcompare_c (x y : El) (w : World) (hx : EIs w x) (hy : EIs w y) : FnC Try.prog 34 #[elV x, elV y] w fun r w' => r = .int .i64 (ecmp x y) ∧ Later w w' := by
  unfold elV
  refine enter34 _ _ ?_
  unfold B34
  have eca : (Value.agg #[.int .i64 x.t, x.dv, .int .i64 x.n, x.av]).cells = #[.int .i64 x.t, x.dv, .int .i64 x.n, x.av] := rfl
  have ecb : (Value.agg #[.int .i64 y.t, y.dv, .int .i64 y.n, y.av]).cells = #[.int .i64 y.t, y.dv, .int .i64 y.n, y.av] := rfl
  have s1 : (w.alloc (.cells #[.int .i64 x.t, x.dv, .int .i64 x.n, x.av] 35)).heap.size = w.heap.size + 1 := World.size_alloc w _
  repeat' (first | (simp (disch := omega) only [push_cast, ↓reduceIte, zA, zG, zB, zH, zI, zC, zJ, zK, zL, zD, zE, zF, zM, zN, zO, zP, zQ, reduceCtorEq, not_true_eq_false, not_false_eq_true, eca, ecb, s1]) | (first | refine vIfE_of ?_ ?_ | refine vIfD_of ?_ ?_ | refine vIfQ_of ?_ ?_ | refine vIfV_of ?_ ?_) <;> intro _ | refine And.intro (by omega) ?_ | fail)
  obtain ⟨l2, F, hs⟩ := boxes w x y hx hy
  generalize ((w.alloc (.cells #[.int .i64 x.t, x.dv, .int .i64 x.n, x.av] 35)).alloc (.cells #[.int .i64 y.t, y.dv, .int .i64 y.n, y.av] 35)) = w2 at *
  obtain ⟨hx2, hy2, _, _, a0, a1, _, _, _, b0, b1, _, _, _⟩ := F w2 (Later.refl _)
  refine drawn_k 9 ?_
  repeat' (first | (simp (disch := omega) only [push_cast, ↓reduceIte, zA, zG, zB, zH, zI, zC, zJ, zK, zL, zD, zE, zF, zM, zN, zO, zP, zQ, reduceCtorEq, not_true_eq_false, not_false_eq_true, a0, a1, b0, b1, addr_add_eq, Nat.zero_add]) | (first | refine vIfE_of ?_ ?_ | refine vIfD_of ?_ ?_ | refine vIfQ_of ?_ ?_ | refine vIfV_of ?_ ?_) <;> intro _ | refine And.intro (by omega) ?_ | fail)
  refine NFn.fix hb72 (v := .int .i64 (if x.t < y.t then -1 else if y.t < x.t then 1 else 0)) (fun w' _ => (cmpI_c _ _ w').mono fun _ _ h => ⟨h.1, h.2 ▸ Later.refl _⟩) ?_
  repeat' (first | (simp (disch := omega) only [push_cast, ↓reduceIte, zA, zG, zB, zH, zI, zC, zJ, zK, zL, zD, zE, zF, zM, zN, zO, zP, zQ, reduceCtorEq, not_true_eq_false, not_false_eq_true, a1, b1, addr_add_eq, Nat.zero_add]) | (first | refine vIfE_of ?_ ?_ | refine vIfD_of ?_ ?_ | refine vIfQ_of ?_ ?_ | refine vIfV_of ?_ ?_) <;> intro _ | refine And.intro (by omega) ?_ | fail)
  intro w3 l3
  repeat' (first | (simp (disch := omega) only [push_cast, ↓reduceIte, zA, zG, zB, zH, zI, zC, zJ, zK, zL, zD, zE, zF, zM, zN, zO, zP, zQ, reduceCtorEq, not_true_eq_false, not_false_eq_true]) | (first | refine vIfE_of ?_ ?_ | refine vIfD_of ?_ ?_ | refine vIfQ_of ?_ ?_ | refine vIfV_of ?_ ?_) <;> intro _ | refine And.intro (by omega) ?_ | fail)
  refine (scmp_c _ _ _ _ w3 (hx2.later l3).1 (hy2.later l3).1).mono ?_
  rintro _ w4 ⟨rfl, h4⟩
  obtain rfl := h4.symm
  repeat' (first | (simp (disch := omega) only [push_cast, ↓reduceIte, zA, zG, zB, zH, zI, zC, zJ, zK, zL, zD, zE, zF, zM, zN, zO, zP, zQ, reduceCtorEq, not_true_eq_false, not_false_eq_true]) | (first | refine vIfE_of ?_ ?_ | refine vIfD_of ?_ ?_ | refine vIfQ_of ?_ ?_ | refine vIfV_of ?_ ?_) <;> intro _ | refine And.intro (by omega) ?_ | refine drawn_q ?_ | fail)
  have e : (if (if x.t < y.t then (-1 : Int) else if y.t < x.t then 1 else 0) = 0 then clist x.d y.d else (if x.t < y.t then -1 else if y.t < x.t then 1 else 0)) = ecmp x y := by
    unfold ecmp ckey
    by_cases h1 : x.t < y.t
    · simp [h1]
    · by_cases h2 : y.t < x.t <;> simp [h1, h2]
  generalize (if x.t < y.t then (-1 : Int) else if y.t < x.t then 1 else 0) = c at *
  have lb := later_alloc w3 (.cells #[.int .i64 c, .int .i64 (clist x.d y.d)] 3)
  have hsl : Sl (w3.alloc (.cells #[.int .i64 c, .int .i64 (clist x.d y.d)] 3)) (.slice (some ⟨w3.heap.size, 0, none⟩) 2 2) (([c, clist x.d y.d] : List Int).map i64v) :=
    Sl.of_blk (xs := [.int .i64 c, .int .i64 (clist x.d y.d)]) (Blk.new w3 _ _) rfl (by unfold maxLen; omega)
  refine (cmpOr_c _ _ _ _ hsl).mono ?_
  rintro _ w5 ⟨rfl, h5⟩
  obtain rfl := h5.symm
  rw [e]
  repeat' (first | (simp (disch := omega) only [push_cast, ↓reduceIte, zA, zG, zB, zH, zI, zC, zJ, zK, zL, zD, zE, zF, zM, zN, zO, zP, zQ, reduceCtorEq, not_true_eq_false, not_false_eq_true]) | (first | refine vIfE_of ?_ ?_ | refine vIfD_of ?_ ?_ | refine vIfQ_of ?_ ?_ | refine vIfV_of ?_ ?_) <;> intro _ | refine And.intro (by omega) ?_ | refine drawn_q ?_ | fail)
  first | exact ⟨rfl, ((l2.trans l3).trans lb)⟩ | exact ((l2.trans l3).trans lb)
theorem onekey_c (x y : El) (w : World) (hx : EIs w x) (hy : EIs w y) : FnC Try.prog 45 #[elV x, elV y] w fun r w' => r = .bool (decide (ecmp x y = 0)) ∧ Later w w' := by
  unfold elV
  refine enter45 _ _ ?_
  unfold B45
  have eca : (Value.agg #[.int .i64 x.t, x.dv, .int .i64 x.n, x.av]).cells = #[.int .i64 x.t, x.dv, .int .i64 x.n, x.av] := rfl
  have ecb : (Value.agg #[.int .i64 y.t, y.dv, .int .i64 y.n, y.av]).cells = #[.int .i64 y.t, y.dv, .int .i64 y.n, y.av] := rfl
  have s1 : (w.alloc (.cells #[.int .i64 x.t, x.dv, .int .i64 x.n, x.av] 35)).heap.size = w.heap.size + 1 := World.size_alloc w _
  repeat' (first | (simp (disch := omega) only [push_cast, ↓reduceIte, zA, zG, zB, zH, zI, zC, zJ, zK, zL, zD, zE, zF, zM, zN, zO, zP, zQ, reduceCtorEq, not_true_eq_false, not_false_eq_true, eca, ecb, s1, addr_add_eq, Nat.zero_add]) | (first | refine vIfE_of ?_ ?_ | refine vIfD_of ?_ ?_ | refine vIfQ_of ?_ ?_ | refine vIfV_of ?_ ?_) <;> intro _ | refine And.intro (by omega) ?_ | fail)
  obtain ⟨l2, F, hs⟩ := boxes w x y hx hy
  generalize ((w.alloc (.cells #[.int .i64 x.t, x.dv, .int .i64 x.n, x.av] 35)).alloc (.cells #[.int .i64 y.t, y.dv, .int .i64 y.n, y.av] 35)) = w2 at *
  obtain ⟨hx2, hy2, _, _, a0, a1, _, _, _, b0, b1, _, _, _⟩ := F w2 (Later.refl _)
  repeat' (first | (simp (disch := omega) only [push_cast, ↓reduceIte, zA, zG, zB, zH, zI, zC, zJ, zK, zL, zD, zE, zF, zM, zN, zO, zP, zQ, reduceCtorEq, not_true_eq_false, not_false_eq_true, a0, a1, b0, b1, addr_add_eq, Nat.zero_add]) | (first | refine vIfE_of ?_ ?_ | refine vIfD_of ?_ ?_ | refine vIfQ_of ?_ ?_ | refine vIfV_of ?_ ?_) <;> intro _ | refine And.intro (by omega) ?_ | refine drawn_q ?_ | fail)
  refine (texts_c _ _ _ _ w2 hx2.1 hy2.1).mono ?_
  rintro _ w3 ⟨rfl, l3⟩
  obtain ⟨_, _, _, _, a0, a1, _, _, _, b0, b1, _, _, _⟩ := F w3 l3
  have l03 := l2.trans l3
  have hk := ckey_is x.t x.d y.t y.d
  by_cases hd : x.d = y.d
  · by_cases ht : x.t = y.t
    · have e : ecmp x y = 0 := by rcases hk with h | h | h; exact absurd ⟨ht, hd⟩ h.2.2; exact h.1; exact absurd ⟨ht, hd⟩ h.2.2
      rw [decide_eq_true hd, decide_eq_true e]
      repeat' (first | (simp (disch := omega) only [push_cast, ↓reduceIte, zA, zG, zB, zH, zI, zC, zJ, zK, zL, zD, zE, zF, zM, zN, zO, zP, zQ, reduceCtorEq, not_true_eq_false, not_false_eq_true, a0, b0, ht, decide_true, addr_add_eq, Nat.zero_add]) | (first | refine vIfE_of ?_ ?_ | refine vIfD_of ?_ ?_ | refine vIfQ_of ?_ ?_ | refine vIfV_of ?_ ?_) <;> intro _ | refine And.intro (by omega) ?_ | refine drawn_q ?_ | fail)
      first | exact ⟨rfl, l03⟩ | exact l03
    · have e : ¬ ecmp x y = 0 := by intro h0; have h0 : ckey x.t x.d y.t y.d = 0 := h0; rcases hk with h | h | h; omega; exact absurd h.2.2.1 ht; omega
      rw [decide_eq_true hd, decide_eq_false e]
      repeat' (first | (simp (disch := omega) only [push_cast, ↓reduceIte, zA, zG, zB, zH, zI, zC, zJ, zK, zL, zD, zE, zF, zM, zN, zO, zP, zQ, reduceCtorEq, not_true_eq_false, not_false_eq_true, a0, b0, addr_add_eq, Nat.zero_add]) | (first | refine vIfE_of ?_ ?_ | refine vIfD_of ?_ ?_ | refine vIfQ_of ?_ ?_ | refine vIfV_of ?_ ?_) <;> intro _ | refine And.intro (by omega) ?_ | refine drawn_q ?_ | fail)
      first | exact ⟨(by simp [ht]), l03⟩ | exact l03
  · have e : ¬ ecmp x y = 0 := by intro h0; have h0 : ckey x.t x.d y.t y.d = 0 := h0; rcases hk with h | h | h; omega; exact absurd h.2.2.2 hd; omega
    rw [decide_eq_false hd, decide_eq_false e]
    repeat' (first | (simp (disch := omega) only [push_cast, ↓reduceIte, zA, zG, zB, zH, zI, zC, zJ, zK, zL, zD, zE, zF, zM, zN, zO, zP, zQ, reduceCtorEq, not_true_eq_false, not_false_eq_true, a0, b0, addr_add_eq, Nat.zero_add]) | (first | refine vIfE_of ?_ ?_ | refine vIfD_of ?_ ?_ | refine vIfQ_of ?_ ?_ | refine vIfV_of ?_ ?_) <;> intro _ | refine And.intro (by omega) ?_ | refine drawn_q ?_ | fail)
    first | exact ⟨rfl, l03⟩ | exact l03
theorem less_c (x y : El) (w : World) (hx : EIs w x) (hy : EIs w y) (hl : x.d.length = y.d.length) : FnC Try.prog 36 #[elV x, elV y] w fun r w' => r = .bool (elt x y) ∧ Later w w' := by
  unfold elV
  refine enter36 _ _ ?_
  unfold B36
  have eca : (Value.agg #[.int .i64 x.t, x.dv, .int .i64 x.n, x.av]).cells = #[.int .i64 x.t, x.dv, .int .i64 x.n, x.av] := rfl
  have ecb : (Value.agg #[.int .i64 y.t, y.dv, .int .i64 y.n, y.av]).cells = #[.int .i64 y.t, y.dv, .int .i64 y.n, y.av] := rfl
  have s1 : (w.alloc (.cells #[.int .i64 x.t, x.dv, .int .i64 x.n, x.av] 35)).heap.size = w.heap.size + 1 := World.size_alloc w _
  repeat' (first | (simp (disch := omega) only [push_cast, ↓reduceIte, zA, zG, zB, zH, zI, zC, zJ, zK, zL, zD, zE, zF, zM, zN, zO, zP, zQ, reduceCtorEq, not_true_eq_false, not_false_eq_true, eca, ecb, s1, addr_add_eq, Nat.zero_add]) | (first | refine vIfE_of ?_ ?_ | refine vIfD_of ?_ ?_ | refine vIfQ_of ?_ ?_ | refine vIfV_of ?_ ?_) <;> intro _ | refine And.intro (by omega) ?_ | fail)
  obtain ⟨l2, F, hs⟩ := boxes w x y hx hy
  generalize ((w.alloc (.cells #[.int .i64 x.t, x.dv, .int .i64 x.n, x.av] 35)).alloc (.cells #[.int .i64 y.t, y.dv, .int .i64 y.n, y.av] 35)) = w2 at *
  obtain ⟨hx2, hy2, _, _, a0, a1, _, _, _, b0, b1, _, _, _⟩ := F w2 (Later.refl _)
  by_cases h1 : x.t < y.t
  · have e : elt x y = true := by simp [elt, ecmp, ckey, h1]
    rw [e]
    repeat' (first | (simp (disch := omega) only [push_cast, ↓reduceIte, zA, zG, zB, zH, zI, zC, zJ, zK, zL, zD, zE, zF, zM, zN, zO, zP, zQ, reduceCtorEq, not_true_eq_false, not_false_eq_true, a0, b0, addr_add_eq, Nat.zero_add]) | (first | refine vIfE_of ?_ ?_ | refine vIfD_of ?_ ?_ | refine vIfQ_of ?_ ?_ | refine vIfV_of ?_ ?_) <;> intro _ | refine And.intro (by omega) ?_ | refine drawn_q ?_ | fail)
    first | exact ⟨(by simp [h1]), l2⟩ | exact l2
  · by_cases h2 : y.t < x.t
    · have e : elt x y = false := by simp [elt, ecmp, ckey, h1, h2]
      rw [e]
      repeat' (first | (simp (disch := omega) only [push_cast, ↓reduceIte, zA, zG, zB, zH, zI, zC, zJ, zK, zL, zD, zE, zF, zM, zN, zO, zP, zQ, reduceCtorEq, not_true_eq_false, not_false_eq_true, a0, b0, addr_add_eq, Nat.zero_add]) | (first | refine vIfE_of ?_ ?_ | refine vIfD_of ?_ ?_ | refine vIfQ_of ?_ ?_ | refine vIfV_of ?_ ?_) <;> intro _ | refine And.intro (by omega) ?_ | refine drawn_q ?_ | fail)
      first | exact ⟨(by simp [h1]), l2⟩ | exact l2
    · have ht : x.t = y.t := by omega
      have e : elt x y = decide (clist x.d y.d < 0) := by simp [elt, ecmp, ckey, h1, h2]
      rw [e]
      clear e h1 h2 eca ecb s1
      obtain ⟨hx2s, _⟩ := hx2
      obtain ⟨hy2s, _⟩ := hy2
      have hX := hx.1
      have hY := hy.1
      obtain ⟨ox, cx, hdx, gx, _, hxs, _⟩ := hX.openM
      obtain ⟨oy, cy, hdy, gy, _, hys, _⟩ := hY.openM
      rw [hdx] at hx2s a1
      rw [hdy] at hy2s b1
      repeat' (first | (simp (disch := omega) only [push_cast, ↓reduceIte, zA, zG, zB, zH, zI, zC, zJ, zK, zL, zD, zE, zF, zM, zN, zO, zP, zQ, reduceCtorEq, not_true_eq_false, not_false_eq_true, a0, b0, ht, decide_true, Bool.not_true, addr_add_eq, Nat.zero_add]) | (first | refine vIfE_of ?_ ?_ | refine vIfD_of ?_ ?_ | refine vIfQ_of ?_ ?_ | refine vIfV_of ?_ ?_) <;> intro _ | refine And.intro (by omega) ?_ | refine drawn_q ?_ | fail)
      refine vc_loop W36_0 (fun i : Nat => [(4, .bool false), (5, .int .i64 (i : Int))])
        (fun i w' => i ≤ x.d.length ∧ Later w2 w' ∧ clist (x.d.drop i) (y.d.drop i) = clist x.d y.d) (fun i => x.d.length - i) 0 (by decide) ?_ ?_ ?_
      · simp (disch := omega) only [push_cast, ↓reduceIte, zA, zG, zB, zH, zI, zC, zJ, zK, zL, zD, zE, zF, zM, zN, zO, zP, zQ, reduceCtorEq, not_true_eq_false, not_false_eq_true]
      · exact ⟨by omega, Later.refl _, by simp⟩
      rintro i uu w0 ⟨hi, hl0, he⟩
      obtain ⟨_, _, _, _, _, a1, _, _, _, _, b1, _, _, _⟩ := F w0 hl0
      rw [hdx] at a1
      rw [hdy] at b1
      by_cases ha : i < x.d.length
      · have hb : i < y.d.length := by omega
        obtain ⟨aa, rfl⟩ := hxs.some ha
        obtain ⟨bb, rfl⟩ := hys.some hb
        have c1 := StS.atS (Sl.later hx2s hl0) ha
        have c2 := StS.atS (Sl.later hy2s hl0) hb
        rw [clist_step ha hb] at he
        by_cases hab : x.d[i] = y.d[i]
        · have h0 : cstr x.d[i] y.d[i] = 0 := by
            rcases cstr_is x.d[i] y.d[i] with h | h | h
            · have := h.1; rw [hab] at h; have h3 := h.1; have h4 := h.2.1; omega
            · exact h.1
            · have := h.1; rw [hab] at h; have h3 := h.1; have h4 := h.2.1; omega
          rw [if_pos h0] at he
          repeat' (first | (simp (disch := omega) only [push_cast, ↓reduceIte, zA, zG, zB, zH, zI, zC, zJ, zK, zL, zD, zE, zF, zM, zN, zO, zP, zQ, reduceCtorEq, not_true_eq_false, not_false_eq_true, a1, b1, c1, c2, hab, decide_true, Bool.not_true, addr_add_eq, Nat.zero_add]) | (first | refine vIfE_of ?_ ?_ | refine vIfD_of ?_ ?_ | refine vIfQ_of ?_ ?_ | refine vIfV_of ?_ ?_) <;> intro _ | refine And.intro (by omega) ?_ | refine drawn_q ?_ | fail)
          intro w1 hl1
          repeat' (first | (simp (disch := omega) only [push_cast, ↓reduceIte, zA, zG, zB, zH, zI, zC, zJ, zK, zL, zD, zE, zF, zM, zN, zO, zP, zQ, reduceCtorEq, not_true_eq_false, not_false_eq_true]) | (first | refine vIfE_of ?_ ?_ | refine vIfD_of ?_ ?_ | refine vIfQ_of ?_ ?_ | refine vIfV_of ?_ ?_) <;> intro _ | refine And.intro (by omega) ?_ | refine drawn_q ?_ | fail)
          exact ⟨rfl, i + 1, by simp (disch := omega) only [push_cast, ↓reduceIte, zA, zG, zB, zH, zI, zC, zJ, zK, zL, zD, zE, zF, zM, zN, zO, zP, zQ, reduceCtorEq, not_true_eq_false, not_false_eq_true], ⟨by omega, hl0.trans hl1, he⟩, by dsimp only; omega⟩
        · have h0 : ¬ cstr x.d[i] y.d[i] = 0 := by
            rcases cstr_is x.d[i] y.d[i] with h | h | h
            · have := h.1; omega
            · exact absurd h.2.2 hab
            · have := h.1; omega
          rw [if_neg h0] at he
          have hlt : Op.bytesLess x.d[i].data.toList y.d[i].data.toList = decide (clist x.d y.d < 0) := by
            rw [← he]
            rcases cstr_is x.d[i] y.d[i] with h | h | h
            · rw [h.1]; exact h.2.2
            · exact absurd h.2.2 hab
            · rw [h.1]
              rcases blt_tri x.d[i] y.d[i] with g | g | g
              · have g2 := g.2.1; rw [h.2.2] at g2; cases g2
              · exact absurd g.1 hab
              · exact g.1
          repeat' (first | (simp (disch := omega) only [push_cast, ↓reduceIte, zA, zG, zB, zH, zI, zC, zJ, zK, zL, zD, zE, zF, zM, zN, zO, zP, zQ, reduceCtorEq, not_true_eq_false, not_false_eq_true, a1, b1, c1, c2, hab, decide_false, Bool.not_false, addr_add_eq, Nat.zero_add]) | (first | refine vIfE_of ?_ ?_ | refine vIfD_of ?_ ?_ | refine vIfQ_of ?_ ?_ | refine vIfV_of ?_ ?_) <;> intro _ | refine And.intro (by omega) ?_ | refine drawn_q ?_ | fail)
          intro w1 hl1
          obtain ⟨_, _, _, _, _, a1, _, _, _, _, b1, _, _, _⟩ := F w1 (hl0.trans hl1)
          rw [hdx] at a1
          rw [hdy] at b1
          have c1 := StS.atS (Sl.later hx2s (hl0.trans hl1)) ha
          have c2 := StS.atS (Sl.later hy2s (hl0.trans hl1)) hb
          repeat' (first | (simp (disch := omega) only [push_cast, ↓reduceIte, zA, zG, zB, zH, zI, zC, zJ, zK, zL, zD, zE, zF, zM, zN, zO, zP, zQ, reduceCtorEq, not_true_eq_false, not_false_eq_true, a1, b1, c1, c2, addr_add_eq, Nat.zero_add]) | (first | refine vIfE_of ?_ ?_ | refine vIfD_of ?_ ?_ | refine vIfQ_of ?_ ?_ | refine vIfV_of ?_ ?_) <;> intro _ | refine And.intro (by omega) ?_ | refine drawn_q ?_ | fail)
          intro w3 hl3
          repeat' (first | (simp (disch := omega) only [push_cast, ↓reduceIte, zA, zG, zB, zH, zI, zC, zJ, zK, zL, zD, zE, zF, zM, zN, zO, zP, zQ, reduceCtorEq, not_true_eq_false, not_false_eq_true]) | (first | refine vIfE_of ?_ ?_ | refine vIfD_of ?_ ?_ | refine vIfQ_of ?_ ?_ | refine vIfV_of ?_ ?_) <;> intro _ | refine And.intro (by omega) ?_ | refine drawn_q ?_ | fail)
          first | exact ⟨(by rw [hlt]), ((l2.trans (hl0.trans hl1)).trans hl3)⟩ | exact ((l2.trans (hl0.trans hl1)).trans hl3)
      · have e : clist x.d y.d = 0 := by rw [← he, clist_n (by omega) (by omega)]
        rw [e]
        repeat' (first | (simp (disch := omega) only [push_cast, ↓reduceIte, zA, zG, zB, zH, zI, zC, zJ, zK, zL, zD, zE, zF, zM, zN, zO, zP, zQ, reduceCtorEq, not_true_eq_false, not_false_eq_true, a1, b1, addr_add_eq, Nat.zero_add]) | (first | refine vIfE_of ?_ ?_ | refine vIfD_of ?_ ?_ | refine vIfQ_of ?_ ?_ | refine vIfV_of ?_ ?_) <;> intro _ | refine And.intro (by omega) ?_ | refine drawn_q ?_ | fail)
        first | exact ⟨rfl, (l2.trans hl0)⟩ | exact (l2.trans hl0)
end Go.Proofs.Ythihbgpaoldbjaa
end
section
set_option linter.unusedSimpArgs false
namespace Go.Proofs.Ythihbgpaoldbjaa
open Go.Vc Go.Key Go.Stab
set_option maxRecDepth 100000
/-- A row whose lists are of someone's own. -/
def EO (w : World) (B : Nat) (e : El) : Prop := w.ownsRow B 9 1 e.dv e.d.length (e.d.map Value.string) ∧ OwnA w B e.av e.a
theorem EO.is {w : World} {B : Nat} {e : El} (h : EO w B e) : EIs w e := ⟨Sl.of_own h.1, OwnR.s h.2⟩
theorem EO.later {w w' : World} {B : Nat} {e : El} (h : EO w B e) (hl : Later w w') : EO w' B e := ⟨own_later h.1 hl, OwnR.later h.2 hl⟩
theorem EO.base {w : World} {B B' : Nat} {e : El} (h : EO w B e) (hb : B' ≤ B) : EO w B' e := ⟨own_base h.1 hb, OwnR.base h.2 hb⟩
theorem EO.chg {w w' : World} {B g : Nat} {e : El} {cs : Array Value} (h : EO w B e) (hb : Blk w g cs 35) (c : Chg w w' [g]) : EO w' B e :=
  ⟨own_chg_ty h.1 hb (by decide) c, own_chg_ty h.2 hb (by decide) c⟩
theorem EIs.slices {w : World} {e : El} (h : EIs w e) : (∃ o n c, e.dv = .slice o n c) ∧ (∃ o n c, e.av = .slice o n c) := by
  obtain ⟨o, c, h1, _⟩ := Sl.openM h.1
  obtain ⟨o', c', h2, _⟩ := RecS.slice h.2
  exact ⟨⟨o, _, c, h1⟩, ⟨o', _, c', h2⟩⟩
theorem elC_one {w : World} {e : El} (h : EIs w e) : ∀ u ∈ elC e, u.oneCell' = true := by
  obtain ⟨⟨o, n, c, h1⟩, ⟨o', n', c', h2⟩⟩ := h.slices
  intro u hu
  unfold elC at hu
  rw [h1, h2] at hu
  simp only [List.mem_cons, List.not_mem_nil, or_false] at hu
  rcases hu with rfl | rfl | rfl | rfl <;> rfl
abbrev OwnE (w : World) (B : Nat) (v : Value) (l : List El) : Prop := OwnR elC 4 w B 35 v l
/-- Rows being sorted. -/
structure Sw (w : World) (B B' g c : Nat) (L l : List El) : Prop where
  own : OwnE w B (.slice (some ⟨g, 0, none⟩) l.length c) l
  els : ∀ e ∈ L, EO w B' e
  sub : ∀ e ∈ l, e ∈ L
  big : l.length ≤ 1000000
theorem Sw.later {w w' : World} {B B' g c : Nat} {L l : List El} (h : Sw w B B' g c L l) (hl : Later w w') : Sw w' B B' g c L l := ⟨h.own.later hl, fun e he => (h.els e he).later hl, h.sub, h.big⟩
theorem Sw.at {w : World} {B B' g c : Nat} {L l : List El} (h : Sw w B B' g c L l) {i : Nat} (hi : i < l.length) : cellsAt w ⟨g, i * 4, none⟩ 4 = some (elC l[i]!) := by
  rw [getElem!_pos l i hi]
  have := RecS.get elC_len h.own.s hi
  rwa [addr_add_eq, Nat.zero_add] at this
theorem Sw.elAt {w : World} {B B' g c : Nat} {L l : List El} (h : Sw w B B' g c L l) {i : Nat} (hi : i < l.length) : EO w B' l[i]! := by
  rw [getElem!_pos l i hi]
  exact h.els _ (h.sub _ (List.getElem_mem _))
theorem Sw.store {w : World} {B B' g c : Nat} {L l : List El} (h : Sw w B B' g c L l) {i : Nat} (hi : i < l.length) {e : El} (he : e ∈ L) {K : Value → World → Prop} (hK : ∀ w', Sw w' B B' g c L (l.set i e) → Chg w w' [g] → K undef w') :
    vStoreD Try.prog 35 (some 4) (.pointer (some ⟨g, i * 4, none⟩)) (.agg (elC e).toArray) K w := by
  obtain ⟨g', eg, hB, ⟨cs, hb⟩, hcan, ho, hc⟩ := OwnR.set elC_len h.own hi e
  have eg' : g = g' := by have := congrArg Addr.block eg; simpa using this
  subst eg'
  rw [addr_add_eq, Nat.zero_add] at hcan ho hc
  refine ⟨rfl, ?_, ?_, ?_⟩
  · simpa [Value.cells] using elC_one (h.els e he).is
  · simpa [Value.cells] using hcan
  · have e1 : (Value.agg (elC e).toArray).cells.toList = elC e := by simp [Value.cells]
    rw [e1]
    refine hK _ ⟨by simpa using ho, fun x hx => (h.els x hx).chg hb hc, fun x hx => ?_, by simpa using h.big⟩ hc
    rcases List.mem_or_eq_of_mem_set hx with hx | rfl
    · exact h.sub x hx
    · exact he
theorem Sw.mem {w : World} {B B' g c : Nat} {L l : List El} (h : Sw w B B' g c L l) {i : Nat} (hi : i < l.length) : l[i]! ∈ L := by rw [getElem!_pos l i hi]; exact h.sub _ (List.getElem_mem _)
abbrev cmpV : Value := .func (.func 34) #[] #[]
theorem swapRange_c (B B' g c : Nat) (L l : List El) (a b k : Nat) (w : World) (h : Sw w B B' g c L l) (ha : a + k ≤ l.length) (hb : b + k ≤ l.length) :
    FnC Try.prog 122 #[.slice (some ⟨g, 0, none⟩) l.length c, .int .i64 a, .int .i64 b, .int .i64 k, cmpV] w fun r w' => Sw w' B B' g c L (swps l a b k) ∧ Chg w w' [g] := by
  have hbig := h.big
  refine enter122 _ _ _ _ _ ?_
  unfold B122
  repeat' (first | (simp (disch := omega) only [push_cast, ↓reduceIte, zA, zG, zB, zH, zI, zC, zJ, zK, zL, zD, zE, zF, zM, zN, zO, zP, zQ, reduceCtorEq, not_true_eq_false, not_false_eq_true]) | (first | refine vIfE_of ?_ ?_ | refine vIfD_of ?_ ?_ | refine vIfQ_of ?_ ?_ | refine vIfV_of ?_ ?_) <;> intro _ | refine And.intro (by omega) ?_ | refine drawn_q ?_ | fail)
  refine vc_loop W122_0 (fun i : Nat => [(10, .int .i64 (i : Int))]) (fun i w' => i ≤ k ∧ Sw w' B B' g c L (swps l a b i) ∧ Chg w w' [g]) (fun i => k - i) 0 (by decide) ?_ ?_ ?_
  · simp (disch := omega) only [push_cast, ↓reduceIte, zA, zG, zB, zH, zI, zC, zJ, zK, zL, zD, zE, zF, zM, zN, zO, zP, zQ, reduceCtorEq, not_true_eq_false, not_false_eq_true]
  · exact ⟨by omega, h, Chg.refl _ _⟩
  rintro i uu w1 ⟨hi, h1, c1⟩
  have hlen := swps_len l a b i
  by_cases hlt : i < k
  · have ea : ((a : Int) + (i : Int)).toNat = a + i := by omega
    have eb : ((b : Int) + (i : Int)).toNat = b + i := by omega
    have fa := h1.at (i := a + i) (by omega)
    have fb := h1.at (i := b + i) (by omega)
    repeat' (first | (simp (disch := omega) only [push_cast, ↓reduceIte, zA, zG, zB, zH, zI, zC, zJ, zK, zL, zD, zE, zF, zM, zN, zO, zP, zQ, reduceCtorEq, not_true_eq_false, not_false_eq_true]) | (first | refine vIfE_of ?_ ?_ | refine vIfD_of ?_ ?_ | refine vIfQ_of ?_ ?_ | refine vIfV_of ?_ ?_) <;> intro _ | refine And.intro (by omega) ?_ | fail)
    refine drawnS_k 21 ?_
    repeat' (first | (simp (disch := omega) only [push_cast, ↓reduceIte, zA, zG, zB, zH, zI, zC, zJ, zK, zL, zD, zE, zF, zM, zN, zO, zP, zQ, reduceCtorEq, not_true_eq_false, not_false_eq_true, ea, eb, fa, fb]) | (first | refine vIfE_of ?_ ?_ | refine vIfD_of ?_ ?_ | refine vIfQ_of ?_ ?_ | refine vIfV_of ?_ ?_) <;> intro _ | refine And.intro (by omega) ?_ | fail)
    refine ⟨rfl, fun w2 l2 => ⟨by simp (disch := omega) only [push_cast, ↓reduceIte, zA, zG, zB, zH, zI, zC, zJ, zK, zL, zD, zE, zF, zM, zN, zO, zP, zQ, reduceCtorEq, not_true_eq_false, not_false_eq_true, implies_true, and_self], ?_⟩⟩
    have h2 := h1.later l2
    have c2 := c1.trans (Chg.of_later l2)
    repeat' (first | (simp (disch := omega) only [push_cast, ↓reduceIte, zA, zG, zB, zH, zI, zC, zJ, zK, zL, zD, zE, zF, zM, zN, zO, zP, zQ, reduceCtorEq, not_true_eq_false, not_false_eq_true, ea, eb]) | (first | refine vIfE_of ?_ ?_ | refine vIfD_of ?_ ?_ | refine vIfQ_of ?_ ?_ | refine vIfV_of ?_ ?_) <;> intro _ | refine And.intro (by omega) ?_ | fail)
    refine h2.store (i := a + i) (by omega) (h2.mem (i := b + i) (by omega)) fun w3 h3 c3 => ?_
    repeat' (first | (simp (disch := omega) only [push_cast, ↓reduceIte, zA, zG, zB, zH, zI, zC, zJ, zK, zL, zD, zE, zF, zM, zN, zO, zP, zQ, reduceCtorEq, not_true_eq_false, not_false_eq_true, eb]) | (first | refine vIfE_of ?_ ?_ | refine vIfD_of ?_ ?_ | refine vIfQ_of ?_ ?_ | refine vIfV_of ?_ ?_) <;> intro _ | refine And.intro (by omega) ?_ | fail)
    refine h3.store (i := b + i) (by simp; omega) (h2.mem (i := a + i) (by omega)) fun w4 h4 c4 => ?_
    repeat' (first | (simp (disch := omega) only [push_cast, ↓reduceIte, zA, zG, zB, zH, zI, zC, zJ, zK, zL, zD, zE, zF, zM, zN, zO, zP, zQ, reduceCtorEq, not_true_eq_false, not_false_eq_true]) | (first | refine vIfE_of ?_ ?_ | refine vIfD_of ?_ ?_ | refine vIfQ_of ?_ ?_ | refine vIfV_of ?_ ?_) <;> intro _ | refine And.intro (by omega) ?_ | refine drawn_q ?_ | fail)
    exact ⟨rfl, i + 1, by simp (disch := omega) only [push_cast, ↓reduceIte, zA, zG, zB, zH, zI, zC, zJ, zK, zL, zD, zE, zF, zM, zN, zO, zP, zQ, reduceCtorEq, not_true_eq_false, not_false_eq_true], ⟨by omega, h4, (c2.trans c3).trans c4⟩, by dsimp only; omega⟩
  · have e : i = k := by omega
    subst e
    repeat' (first | (simp (disch := omega) only [push_cast, ↓reduceIte, zA, zG, zB, zH, zI, zC, zJ, zK, zL, zD, zE, zF, zM, zN, zO, zP, zQ, reduceCtorEq, not_true_eq_false, not_false_eq_true]) | (first | refine vIfE_of ?_ ?_ | refine vIfD_of ?_ ?_ | refine vIfQ_of ?_ ?_ | refine vIfV_of ?_ ?_) <;> intro _ | refine And.intro (by omega) ?_ | refine drawn_q ?_ | fail)
    first | exact ⟨h1, c1⟩ | exact c1
theorem rotate_c (B B' g c : Nat) (L X u v Y : List El) (w : World) (h : Sw w B B' g c L (X ++ u ++ v ++ Y)) (hu : 0 < u.length) (hv : 0 < v.length) :
    FnC Try.prog 117 #[.slice (some ⟨g, 0, none⟩) (X ++ u ++ v ++ Y).length c, .int .i64 X.length, .int .i64 ((X.length + u.length : Nat) : Int), .int .i64 ((X.length + u.length + v.length : Nat) : Int), cmpV] w fun r w' => Sw w' B B' g c L (X ++ v ++ u ++ Y) ∧ Chg w w' [g] := by
  have hbig := h.big
  have hlen : (X ++ u ++ v ++ Y).length = X.length + u.length + v.length + Y.length := by simp; omega
  rw [hlen] at hbig
  generalize hN : (X ++ u ++ v ++ Y).length = N at *
  refine enter117 _ _ _ _ _ ?_
  unfold B117
  have ei : ((X.length + u.length : Nat) : Int) - (X.length : Int) = (u.length : Int) := by omega
  have ej : ((X.length + u.length + v.length : Nat) : Int) - ((X.length + u.length : Nat) : Int) = (v.length : Int) := by omega
  generalize hm : X.length + u.length = m at *
  have ej' : (m : Int) + (v.length : Int) - (m : Int) = (v.length : Int) := by omega
  repeat' (first | (simp (disch := omega) only [push_cast, ↓reduceIte, zA, zG, zB, zH, zI, zC, zJ, zK, zL, zD, zE, zF, zM, zN, zO, zP, zQ, reduceCtorEq, not_true_eq_false, not_false_eq_true, ei, ej]) | (first | refine vIfE_of ?_ ?_ | refine vIfD_of ?_ ?_ | refine vIfQ_of ?_ ?_ | refine vIfV_of ?_ ?_) <;> intro _ | refine And.intro (by omega) ?_ | refine drawn_q ?_ | fail)
  refine vc_loop W117_0 (fun p : Nat × Nat => [(10, .int .i64 (p.1 : Int)), (11, .int .i64 (p.2 : Int))])
    (fun p w' => ∃ dl P Q dr, P.length = p.1 ∧ Q.length = p.2 ∧ 0 < p.1 ∧ 0 < p.2 ∧ X.length + dl.length + P.length = m ∧ v ++ u = dl ++ Q ++ P ++ dr ∧ Sw w' B B' g c L (X ++ dl ++ P ++ Q ++ (dr ++ Y)) ∧ Chg w w' [g]) (fun p => p.1 + p.2) (u.length, v.length) (by decide) ?_ ?_ ?_
  · simp (disch := omega) only [push_cast, ↓reduceIte, zA, zG, zB, zH, zI, zC, zJ, zK, zL, zD, zE, zF, zM, zN, zO, zP, zQ, reduceCtorEq, not_true_eq_false, not_false_eq_true, ei, ej, ej']
  · exact ⟨[], u, v, [], rfl, rfl, hu, hv, by simp; omega, by simp, by simpa using h, Chg.refl _ _⟩
  rintro ⟨i, j⟩ uu w1 ⟨dl, P, Q, dr, hP, hQ, hi0, hj0, hmP, hvu, h1, c1⟩
  dsimp only at hP hQ hi0 hj0
  have htot := congrArg List.length hvu
  simp only [List.length_append] at htot
  have hLn : (X ++ dl ++ P ++ Q ++ (dr ++ Y)).length = N := by simp only [List.length_append]; omega
  rcases Nat.lt_trichotomy i j with hij | hij | hij
  · obtain ⟨Q1, Q2, rfl, q2, q1, hs⟩ := rot_lt (X := X ++ dl) (P := P) (Q := Q) (Y := dr ++ Y) (by omega)
    have h1' := swapRange_c B B' g c L (X ++ dl ++ P ++ (Q1 ++ Q2) ++ (dr ++ Y)) (X ++ dl).length ((X ++ dl).length + (Q1 ++ Q2).length) P.length w1 h1 (by simp only [List.length_append]; omega) (by simp only [List.length_append] at *; omega)
    rw [hs, hLn] at h1'
    have a1 : ((X ++ dl).length : Int) = (m : Int) - (i : Int) := by rw [List.length_append]; omega
    have a2 : (((X ++ dl).length + (Q1 ++ Q2).length : Nat) : Int) = (m : Int) + (j : Int) - (i : Int) := by rw [List.length_append, hQ]; omega
    rw [a1, a2, hP] at h1'
    have hjo := hQ
    rw [List.length_append] at hjo
    repeat' (first | (simp (disch := omega) only [push_cast, ↓reduceIte, zA, zG, zB, zH, zI, zC, zJ, zK, zL, zD, zE, zF, zM, zN, zO, zP, zQ, reduceCtorEq, not_true_eq_false, not_false_eq_true]) | (first | refine vIfE_of ?_ ?_ | refine vIfD_of ?_ ?_ | refine vIfQ_of ?_ ?_ | refine vIfV_of ?_ ?_) <;> intro _ | refine And.intro (by omega) ?_ | refine drawn_q ?_ | fail)
    refine h1'.mono ?_
    rintro _ w2 ⟨h2, c2⟩
    repeat' (first | (simp (disch := omega) only [push_cast, ↓reduceIte, zA, zG, zB, zH, zI, zC, zJ, zK, zL, zD, zE, zF, zM, zN, zO, zP, zQ, reduceCtorEq, not_true_eq_false, not_false_eq_true]) | (first | refine vIfE_of ?_ ?_ | refine vIfD_of ?_ ?_ | refine vIfQ_of ?_ ?_ | refine vIfV_of ?_ ?_) <;> intro _ | refine And.intro (by omega) ?_ | refine drawn_q ?_ | fail)
    refine ⟨rfl, (i, j - i), by simp (disch := omega) only [push_cast, ↓reduceIte, zA, zG, zB, zH, zI, zC, zJ, zK, zL, zD, zE, zF, zM, zN, zO, zP, zQ, reduceCtorEq, not_true_eq_false, not_false_eq_true], ⟨dl, Q2, Q1, P ++ dr, by dsimp only; omega, by dsimp only; omega, by dsimp only; omega, by dsimp only; omega, by omega, ?_, by simpa using h2, c1.trans c2⟩, by dsimp only; omega⟩
    rw [hvu]; simp
  · subst hij
    have hs := rot_eq (X := X ++ dl) (P := P) (Q := Q) (Y := dr ++ Y) (by omega)
    have h1' := swapRange_c B B' g c L (X ++ dl ++ P ++ Q ++ (dr ++ Y)) (X ++ dl).length ((X ++ dl).length + P.length) P.length w1 h1 (by simp only [List.length_append]; omega) (by simp only [List.length_append]; omega)
    rw [hs, hLn] at h1'
    have a1 : ((X ++ dl).length : Int) = (m : Int) - (i : Int) := by rw [List.length_append]; omega
    have a2 : (((X ++ dl).length + P.length : Nat) : Int) = (m : Int) := by rw [List.length_append]; omega
    rw [a1, a2, hP] at h1'
    repeat' (first | (simp (disch := omega) only [push_cast, ↓reduceIte, zA, zG, zB, zH, zI, zC, zJ, zK, zL, zD, zE, zF, zM, zN, zO, zP, zQ, reduceCtorEq, not_true_eq_false, not_false_eq_true]) | (first | refine vIfE_of ?_ ?_ | refine vIfD_of ?_ ?_ | refine vIfQ_of ?_ ?_ | refine vIfV_of ?_ ?_) <;> intro _ | refine And.intro (by omega) ?_ | refine drawn_q ?_ | fail)
    refine h1'.mono ?_
    rintro _ w2 ⟨h2, c2⟩
    have hf : Sw w2 B B' g c L (X ++ v ++ u ++ Y) := by
      have e : X ++ v ++ u ++ Y = X ++ dl ++ Q ++ P ++ (dr ++ Y) := by
        rw [List.append_assoc X v u, hvu]; simp
      rw [e]; exact h2
    repeat' (first | (simp (disch := omega) only [push_cast, ↓reduceIte, zA, zG, zB, zH, zI, zC, zJ, zK, zL, zD, zE, zF, zM, zN, zO, zP, zQ, reduceCtorEq, not_true_eq_false, not_false_eq_true]) | (first | refine vIfE_of ?_ ?_ | refine vIfD_of ?_ ?_ | refine vIfQ_of ?_ ?_ | refine vIfV_of ?_ ?_) <;> intro _ | refine And.intro (by omega) ?_ | refine drawn_q ?_ | fail)
    first | exact ⟨hf, (c1.trans c2)⟩ | exact (c1.trans c2)
  · obtain ⟨P1, P2, rfl, q1, q2, hs⟩ := rot_gt (X := X ++ dl) (P := P) (Q := Q) (Y := dr ++ Y) (by omega)
    have h1' := swapRange_c B B' g c L (X ++ dl ++ (P1 ++ P2) ++ Q ++ (dr ++ Y)) (X ++ dl).length ((X ++ dl).length + (P1 ++ P2).length) Q.length w1 h1 (by simp only [List.length_append] at *; omega) (by simp only [List.length_append] at *; omega)
    rw [hs, hLn] at h1'
    have a1 : ((X ++ dl).length : Int) = (m : Int) - (i : Int) := by rw [List.length_append]; omega
    have a2 : (((X ++ dl).length + (P1 ++ P2).length : Nat) : Int) = (m : Int) := by rw [List.length_append]; omega
    rw [a1, a2, hQ] at h1'
    have hio := hP
    rw [List.length_append] at hio
    repeat' (first | (simp (disch := omega) only [push_cast, ↓reduceIte, zA, zG, zB, zH, zI, zC, zJ, zK, zL, zD, zE, zF, zM, zN, zO, zP, zQ, reduceCtorEq, not_true_eq_false, not_false_eq_true]) | (first | refine vIfE_of ?_ ?_ | refine vIfD_of ?_ ?_ | refine vIfQ_of ?_ ?_ | refine vIfV_of ?_ ?_) <;> intro _ | refine And.intro (by omega) ?_ | refine drawn_q ?_ | fail)
    refine h1'.mono ?_
    rintro _ w2 ⟨h2, c2⟩
    repeat' (first | (simp (disch := omega) only [push_cast, ↓reduceIte, zA, zG, zB, zH, zI, zC, zJ, zK, zL, zD, zE, zF, zM, zN, zO, zP, zQ, reduceCtorEq, not_true_eq_false, not_false_eq_true]) | (first | refine vIfE_of ?_ ?_ | refine vIfD_of ?_ ?_ | refine vIfQ_of ?_ ?_ | refine vIfV_of ?_ ?_) <;> intro _ | refine And.intro (by omega) ?_ | refine drawn_q ?_ | fail)
    refine ⟨rfl, (i - j, j), by simp (disch := omega) only [push_cast, ↓reduceIte, zA, zG, zB, zH, zI, zC, zJ, zK, zL, zD, zE, zF, zM, zN, zO, zP, zQ, reduceCtorEq, not_true_eq_false, not_false_eq_true], ⟨dl ++ Q, P2, P1, dr, by dsimp only; omega, by dsimp only; omega, by dsimp only; omega, by dsimp only; omega, by simp only [List.length_append]; omega, ?_, by simpa using h2, c1.trans c2⟩, by dsimp only; omega⟩
    rw [hvu]; simp
end Go.Proofs.Ythihbgpaoldbjaa
end
section
set_option linter.unusedSimpArgs false
namespace Go.Proofs.Ythihbgpaoldbjaa
open Go.Vc Go.Key Go.Stab
set_option maxRecDepth 100000
abbrev OwnS (w : World) (B : Nat) (v : Value) (l : List ByteArray) : Prop := w.ownsRow B 9 1 v l.length (l.map Value.string)
theorem cloneS_c (v : Value) (l : List ByteArray) (w : World) (h : StS w v l) (hl : l.length ≤ 1000000) : FnC Try.prog 52 #[v] w fun r w' => OwnS w' w.heap.size r l ∧ Later w w' := by
  have h0 := h
  obtain ⟨o, c, rfl, g1, g2, h, g3⟩ := h.openM
  refine enter52 _ ?_
  unfold B52
  cases o with
  | none =>
    obtain ⟨rfl, _⟩ := g3 rfl
    repeat' (first | (simp (disch := omega) only [push_cast, ↓reduceIte, zA, zG, zB, zH, zI, zC, zJ, zK, zL, zD, zE, zF, zM, zN, zO, zP, zQ, reduceCtorEq, not_true_eq_false, not_false_eq_true]) | (first | refine vIfE_of ?_ ?_ | refine vIfD_of ?_ ?_ | refine vIfQ_of ?_ ?_ | refine vIfV_of ?_ ?_) <;> intro _ | refine And.intro (by omega) ?_ | refine drawn_q ?_ | fail)
    have : OwnS w w.heap.size (.slice none 0 0) [] := own_nil w _ _ 1
    first | exact ⟨this, Later.refl _⟩ | exact Later.refl _
  | some a =>
    repeat' (first | (simp (disch := omega) only [push_cast, ↓reduceIte, zA, zG, zB, zH, zI, zC, zJ, zK, zL, zD, zE, zF, zM, zN, zO, zP, zQ, reduceCtorEq, not_true_eq_false, not_false_eq_true]) | (first | refine vIfE_of ?_ ?_ | refine vIfD_of ?_ ?_ | refine vIfQ_of ?_ ?_ | refine vIfV_of ?_ ?_) <;> intro _ | refine And.intro (by omega) ?_ | refine drawn_q ?_ | fail)
    have la := later_alloc w (.cells #[] 9)
    have hown : (w.alloc (.cells #[] 9)).ownsRow w.heap.size 9 1 (.slice (some ⟨w.heap.size, 0, none⟩) 0 0) 0 [] := own_lit w [] _ 1 0 rfl (by unfold maxLen; omega) (Nat.le_refl _)
    have hx : SlN (w.alloc (.cells #[] 9)) 1 (.slice (some a) l.length c) l.length (l.map Value.string) := by
      have := h.later la
      unfold Sl at this
      rwa [List.length_map] at this
    refine vAppend_own Try.underlying22 ti9 rfl (by decide) hown hx (by intro u hu; obtain ⟨x, _, rfl⟩ := List.mem_map.1 hu; rfl) (by unfold maxLen; omega) (by omega) (by simp) ?_
    intro v' w' ho hg _
    have hl' := la.appended hown (Nat.le_refl _) hg
    have ho' : OwnS w' w.heap.size v' l := by
      unfold OwnS
      simpa using ho
    repeat' (first | (simp (disch := omega) only [push_cast, ↓reduceIte, zA, zG, zB, zH, zI, zC, zJ, zK, zL, zD, zE, zF, zM, zN, zO, zP, zQ, reduceCtorEq, not_true_eq_false, not_false_eq_true]) | (first | refine vIfE_of ?_ ?_ | refine vIfD_of ?_ ?_ | refine vIfQ_of ?_ ?_ | refine vIfV_of ?_ ?_) <;> intro _ | refine And.intro (by omega) ?_ | refine drawn_q ?_ | fail)
    first | exact ⟨ho', hl'⟩ | exact hl'
theorem cloneA_c (v : Value) (l : List Ag) (w : World) (h : AgS w v l) (hl : l.length ≤ 1000000) : FnC Try.prog 99 #[v] w fun r w' => OwnA w' w.heap.size r l ∧ Later w w' := by
  have h0 := h
  obtain ⟨o, c, rfl, g1, g2⟩ := h.slice
  refine enter99 _ ?_
  unfold B99
  cases o with
  | none =>
    have hn : l = [] := List.length_eq_zero_iff.1 (((SlN.len h0).2.2.2.2 rfl).1)
    subst hn
    repeat' (first | (simp (disch := omega) only [push_cast, ↓reduceIte, zA, zG, zB, zH, zI, zC, zJ, zK, zL, zD, zE, zF, zM, zN, zO, zP, zQ, reduceCtorEq, not_true_eq_false, not_false_eq_true]) | (first | refine vIfE_of ?_ ?_ | refine vIfD_of ?_ ?_ | refine vIfQ_of ?_ ?_ | refine vIfV_of ?_ ?_) <;> intro _ | refine And.intro (by omega) ?_ | refine drawn_q ?_ | fail)
    have : OwnA w w.heap.size (.slice none 0 0) [] := OwnR.nil w _ _
    first | exact ⟨this, Later.refl _⟩ | exact Later.refl _
  | some a =>
    repeat' (first | (simp (disch := omega) only [push_cast, ↓reduceIte, zA, zG, zB, zH, zI, zC, zJ, zK, zL, zD, zE, zF, zM, zN, zO, zP, zQ, reduceCtorEq, not_true_eq_false, not_false_eq_true]) | (first | refine vIfE_of ?_ ?_ | refine vIfD_of ?_ ?_ | refine vIfQ_of ?_ ?_ | refine vIfV_of ?_ ?_) <;> intro _ | refine And.intro (by omega) ?_ | refine drawn_q ?_ | fail)
    have la := later_alloc w (.cells #[] 64)
    refine vAppend_rs agC_len agC_one Try.underlying33 ti64 rfl (by decide) (OwnR.lit0 w 64 (Nat.le_refl _)) (RecS.later h0 la) (by simp; omega) (by omega) (by simp) ?_
    intro v' w' ho hg _
    have hl' := la.appended (OwnR.lit0 (enc := agC) (k := 3) w 64 (Nat.le_refl _)) (Nat.le_refl _) hg
    rw [List.nil_append] at ho
    repeat' (first | (simp (disch := omega) only [push_cast, ↓reduceIte, zA, zG, zB, zH, zI, zC, zJ, zK, zL, zD, zE, zF, zM, zN, zO, zP, zQ, reduceCtorEq, not_true_eq_false, not_false_eq_true]) | (first | refine vIfE_of ?_ ?_ | refine vIfD_of ?_ ?_ | refine vIfQ_of ?_ ?_ | refine vIfV_of ?_ ?_) <;> intro _ | refine And.intro (by omega) ?_ | refine drawn_q ?_ | fail)
    first | exact ⟨ho, hl'⟩ | exact hl'
theorem stb_ownS (w0 : World) (B : Nat) (l : List ByteArray) : Stb w0 (fun v w => OwnS w B v l) := fun _ _ _ _ hl h => own_later h hl
theorem stb_ownA (w0 : World) (B : Nat) (l : List Ag) : Stb w0 (fun v w => OwnA w B v l) := fun _ _ _ _ hl h => OwnR.later h hl
theorem own_c (e : El) (w : World) (h : EIs w e) (hd : e.d.length ≤ 1000000) (ha : e.a.length ≤ 1000000) : FnC Try.prog 69 #[elV e] w fun r w' => ∃ x y, r = elV { e with dv := x, av := y } ∧ EO w' w.heap.size { e with dv := x, av := y } ∧ Later w w' := by
  unfold elV
  refine enter69 _ ?_
  unfold B69
  have eca : (Value.agg #[.int .i64 e.t, e.dv, .int .i64 e.n, e.av]).cells = #[.int .i64 e.t, e.dv, .int .i64 e.n, e.av] := rfl
  have l1 := later_alloc w (.cells #[.int .i64 e.t, e.dv, .int .i64 e.n, e.av] 35)
  have B1 := Blk.new w #[.int .i64 e.t, e.dv, .int .i64 e.n, e.av] 35
  have s1 : (w.alloc (.cells #[.int .i64 e.t, e.dv, .int .i64 e.n, e.av] 35)).heap.size = w.heap.size + 1 := World.size_alloc w _
  repeat' (first | (simp (disch := omega) only [push_cast, ↓reduceIte, zA, zG, zB, zH, zI, zC, zJ, zK, zL, zD, zE, zF, zM, zN, zO, zP, zQ, reduceCtorEq, not_true_eq_false, not_false_eq_true, eca, s1]) | (first | refine vIfE_of ?_ ?_ | refine vIfD_of ?_ ?_ | refine vIfQ_of ?_ ?_ | refine vIfV_of ?_ ?_) <;> intro _ | refine And.intro (by omega) ?_ | fail)
  generalize w.alloc (.cells #[.int .i64 e.t, e.dv, .int .i64 e.n, e.av] 35) = w1 at *
  have l2 := later_alloc w1 (.cells #[.int .i64 0, .slice none 0 0, .int .i64 0, .slice none 0 0] 35)
  have B2 := Blk.new w1 #[.int .i64 0, .slice none 0 0, .int .i64 0, .slice none 0 0] 35
  rw [s1] at B2
  generalize w1.alloc (.cells #[.int .i64 0, .slice none 0 0, .int .i64 0, .slice none 0 0] 35) = w2 at *
  have h2 := h.later (l1.trans l2)
  have B12 := B1.chg (Chg.of_later (ks := []) l2) (by simp)
  obtain ⟨a0, a1, a2, a3, _⟩ := box4_later B12 (Later.refl _)
  have hsz := (l1.trans l2).size
  refine drawn_k 7 ?_
  repeat' (first | (simp (disch := omega) only [push_cast, ↓reduceIte, zA, zG, zB, zH, zI, zC, zJ, zK, zL, zD, zE, zF, zM, zN, zO, zP, zQ, reduceCtorEq, not_true_eq_false, not_false_eq_true, a1, a3, addr_add_eq, Nat.zero_add]) | (first | refine vIfE_of ?_ ?_ | refine vIfD_of ?_ ?_ | refine vIfQ_of ?_ ?_ | refine vIfV_of ?_ ?_) <;> intro _ | refine And.intro (by omega) ?_ | fail)
  refine NFn.of hb52 (fun v w' => OwnS w' w.heap.size v e.d) (stb_ownS _ _ _) (fun w' hl => (cloneS_c _ _ w' (h2.later hl).1 hd).mono fun v w'' hv => ⟨own_base hv.1 (Nat.le_trans hsz hl.size), hv.2⟩) ?_
  repeat' (first | (simp (disch := omega) only [push_cast, ↓reduceIte, zA, zG, zB, zH, zI, zC, zJ, zK, zL, zD, zE, zF, zM, zN, zO, zP, zQ, reduceCtorEq, not_true_eq_false, not_false_eq_true, a1, a3, addr_add_eq, Nat.zero_add]) | (first | refine vIfE_of ?_ ?_ | refine vIfD_of ?_ ?_ | refine vIfQ_of ?_ ?_ | refine vIfV_of ?_ ?_) <;> intro _ | refine And.intro (by omega) ?_ | fail)
  refine NFn.of hb99 (fun v w' => OwnA w' w.heap.size v e.a) (stb_ownA _ _ _) (fun w' hl => (cloneA_c _ _ w' (h2.later hl).2 ha).mono fun v w'' hv => ⟨OwnR.base hv.1 (Nat.le_trans hsz hl.size), hv.2⟩) ?_
  repeat' (first | (simp (disch := omega) only [push_cast, ↓reduceIte, zA, zG, zB, zH, zI, zC, zJ, zK, zL, zD, zE, zF, zM, zN, zO, zP, zQ, reduceCtorEq, not_true_eq_false, not_false_eq_true, a1, a3, addr_add_eq, Nat.zero_add]) | (first | refine vIfE_of ?_ ?_ | refine vIfD_of ?_ ?_ | refine vIfQ_of ?_ ?_ | refine vIfV_of ?_ ?_) <;> intro _ | refine And.intro (by omega) ?_ | fail)
  intro w3 l3 y hy x hx
  obtain ⟨ox, cx, rfl, _⟩ := Sl.openM (Sl.of_own hx : Sl w3 x (e.d.map Value.string))
  obtain ⟨oy, cy, rfl, _⟩ := RecS.slice (OwnR.s hy)
  have hE : EO w3 w.heap.size { e with dv := .slice ox e.d.length cx, av := .slice oy e.a.length cy } := ⟨hx, hy⟩
  have B13 := B12.chg (Chg.of_later (ks := []) l3) (by simp)
  have B23 := B2.chg (Chg.of_later (ks := []) l3) (by simp)
  have g1 : w3.cell? ⟨w.heap.size, 1, none⟩ = some e.dv := B13.cell 1
  have g2 := B13.frozen 1
  have l03 := (l1.trans l2).trans l3
  generalize hk : w.heap.size = k at *
  repeat' (first | (simp (disch := omega) only [push_cast, ↓reduceIte, zA, zG, zB, zH, zI, zC, zJ, zK, zL, zD, zE, zF, zM, zN, zO, zP, zQ, reduceCtorEq, not_true_eq_false, not_false_eq_true, g1, g2, addr_add_eq, Nat.zero_add]) | (first | refine vIfE_of ?_ ?_ | refine vIfD_of ?_ ?_ | refine vIfQ_of ?_ ?_ | refine vIfV_of ?_ ?_) <;> intro _ | refine And.intro (by omega) ?_ | fail)
  have c4 := chg_setCell w3 (k := k) (i := 1) (ks := [k]) (by simp) (.slice ox e.d.length cx)
  have B14 := B13.set 1 (.slice ox e.d.length cx)
  have hE4 := hE.chg B13 c4
  have B24 := B23.chg c4 (by simp)
  generalize w3.setCell ⟨k, 1, none⟩ (.slice ox e.d.length cx) = w4 at *
  have g3 : w4.cell? ⟨k, 3, none⟩ = some e.av := B14.cell 3
  have g4 := B14.frozen 3
  repeat' (first | (simp (disch := omega) only [push_cast, ↓reduceIte, zA, zG, zB, zH, zI, zC, zJ, zK, zL, zD, zE, zF, zM, zN, zO, zP, zQ, reduceCtorEq, not_true_eq_false, not_false_eq_true, g3, g4, addr_add_eq, Nat.zero_add]) | (first | refine vIfE_of ?_ ?_ | refine vIfD_of ?_ ?_ | refine vIfQ_of ?_ ?_ | refine vIfV_of ?_ ?_) <;> intro _ | refine And.intro (by omega) ?_ | fail)
  have c5 := chg_setCell w4 (k := k) (i := 3) (ks := [k]) (by simp) (.slice oy e.a.length cy)
  have B15 := B14.set 3 (.slice oy e.a.length cy)
  have hE5 := hE4.chg B14 c5
  have B25 := B24.chg c5 (by simp)
  generalize w4.setCell ⟨k, 3, none⟩ (.slice oy e.a.length cy) = w5 at *
  have g5 : cellsAt w5 ⟨k, 0, none⟩ 4 = some [.int .i64 e.t, .slice ox e.d.length cx, .int .i64 e.n, .slice oy e.a.length cy] := Blk.cellsAt (l := [.int .i64 e.t, .slice ox e.d.length cx, .int .i64 e.n, .slice oy e.a.length cy]) B15
  repeat' (first | (simp (disch := omega) only [push_cast, ↓reduceIte, zA, zG, zB, zH, zI, zC, zJ, zK, zL, zD, zE, zF, zM, zN, zO, zP, zQ, reduceCtorEq, not_true_eq_false, not_false_eq_true, g5]) | (first | refine vIfE_of ?_ ?_ | refine vIfD_of ?_ ?_ | refine vIfQ_of ?_ ?_ | refine vIfV_of ?_ ?_) <;> intro _ | refine And.intro (by omega) ?_ | fail)
  refine vStore_blk (l := [.int .i64 0, .slice none 0 0, .int .i64 0, .slice none 0 0]) (xs := elC { e with dv := .slice ox e.d.length cx, av := .slice oy e.a.length cy }) B25 rfl rfl (elC_one hE5.is) ?_
  intro w6 B26 c6
  have hE6 := hE5.chg B25 c6
  repeat' (first | (simp (disch := omega) only [push_cast, ↓reduceIte, zA, zG, zB, zH, zI, zC, zJ, zK, zL, zD, zE, zF, zM, zN, zO, zP, zQ, reduceCtorEq, not_true_eq_false, not_false_eq_true]) | (first | refine vIfE_of ?_ ?_ | refine vIfD_of ?_ ?_ | refine vIfQ_of ?_ ?_ | refine vIfV_of ?_ ?_) <;> intro _ | refine And.intro (by omega) ?_ | refine drawn_q ?_ | fail)
  refine resK_cells (s := 4) (by simp (disch := omega) only [push_cast, ↓reduceIte, zA, zG, zB, zH, zI, zC, zJ, zK, zL, zD, zE, zF, zM, zN, zO, zP, zQ, reduceCtorEq, not_true_eq_false, not_false_eq_true]) (by rw [Try.underlying35]; exact sz35) (Blk.cellsAt (l := elC { e with dv := .slice ox e.d.length cx, av := .slice oy e.a.length cy }) B26) ?_
  repeat' (first | (simp (disch := omega) only [push_cast, ↓reduceIte, zA, zG, zB, zH, zI, zC, zJ, zK, zL, zD, zE, zF, zM, zN, zO, zP, zQ, reduceCtorEq, not_true_eq_false, not_false_eq_true]) | (first | refine vIfE_of ?_ ?_ | refine vIfD_of ?_ ?_ | refine vIfQ_of ?_ ?_ | refine vIfV_of ?_ ?_) <;> intro _ | refine And.intro (by omega) ?_ | refine drawn_q ?_ | fail)
  refine ⟨.slice ox e.d.length cx, .slice oy e.a.length cy, rfl, hE6, ?_⟩
  have hall : Chg w3 w6 [k, k + 1] := ((c4.mono (by simp)).trans (c5.mono (by simp))).trans (c6.mono (by simp))
  exact Chg.later l03 hall (by intro j hj; simp at hj; omega)
end Go.Proofs.Ythihbgpaoldbjaa
end
section
set_option linter.unusedSimpArgs false
namespace Go.Proofs.Ythihbgpaoldbjaa
open Go.Vc Go.Key Go.Stab
set_option maxRecDepth 100000
def ptr (k : Nat) : Value := .pointer (some ⟨k, 0, none⟩)
/-- What a row says, wherever its lists lie. -/
def El.abs (e : El) : Int × List ByteArray × Int × List Ag := (e.t, e.d, e.n, e.a)
theorem EO.obj {w w' : World} {B k : Nat} {o : Obj} {e : El} (h : EO w B e) (hb : w.heap[k]? = some o) (ho : o.isCells = false) (g : Chg w w' [k]) : EO w' B e := ⟨own_obj h.1 hb ho g, own_obj h.2 hb ho g⟩
theorem EO.cellOut {w w' : World} {B k : Nat} {cs : Array Value} {e : El} (h : EO w B e) (hb : Blk w k cs 25) (g : Chg w w' [k]) : EO w' B e := ⟨own_chg_ty h.1 hb (by decide) g, own_chg_ty h.2 hb (by decide) g⟩
theorem EO.grown {w w' : World} {B B' : Nat} {v : Value} {es : List El} {e : El} (h : EO w B' e) (hv : OwnE w B v es) (g : w.grownBy w' v.ownBlock) : EO w' B' e := by
  have gc := Chg.of_grown g
  obtain ⟨o, c, rfl, _⟩ := RecS.slice (OwnR.s hv)
  cases o with
  | none => exact h.later ⟨gc.os, gc.tape, gc.output, gc.size, fun k hk => gc.block k hk (by simp [Value.ownBlock])⟩
  | some a =>
    obtain ⟨k, rfl, _, _, ⟨cs, hb⟩, _⟩ := own_writes hv
    exact h.chg hb gc
theorem values_c (o : Option Addr) (n c : Nat) (w : World) : FnC Try.prog 68 #[.slice o n c] w fun r w' => r = .func (.func 98) #[] #[ptr w.heap.size] ∧ Later w w' ∧ w'.heap.size = w.heap.size + 1 ∧ Blk w' w.heap.size #[.slice o n c] 25 := by
  refine enter68 _ ?_
  unfold B68 ptr
  have ec : (Value.slice o n c).cells = #[.slice o n c] := rfl
  repeat' (first | (simp (disch := omega) only [push_cast, ↓reduceIte, zA, zG, zB, zH, zI, zC, zJ, zK, zL, zD, zE, zF, zM, zN, zO, zP, zQ, reduceCtorEq, not_true_eq_false, not_false_eq_true, ec]) | (first | refine vIfE_of ?_ ?_ | refine vIfD_of ?_ ?_ | refine vIfQ_of ?_ ?_ | refine vIfV_of ?_ ?_) <;> intro _ | refine And.intro (by omega) ?_ | refine drawn_q ?_ | fail)
  have l1 := later_alloc w (.cells #[.slice o n c] 25)
  have s1 := World.size_alloc w (.cells #[.slice o n c] 25)
  have B1 := Blk.new w #[.slice o n c] 25
  first | exact ⟨rfl, l1, ⟨s1, B1⟩⟩ | exact ⟨l1, ⟨s1, B1⟩⟩ | exact ⟨s1, B1⟩
theorem vals_c (L k1 : Nat) (v : Value) (l : List El) (I : Nat → World → Prop) (w : World) (h0 : I 0 w) (hl : l.length ≤ 1000000) (hstab : ∀ i w1 w2, I i w1 → Later w1 w2 → I i w2)
    (hI : ∀ i w1, I i w1 → RecS elC 4 w1 v l ∧ Blk w1 k1 #[v] 25 ∧ ∀ e ∈ l, EIs w1 e)
    (hy : ∀ i (hi : i < l.length) w1, I i w1 → YldC Try.prog L #[elV l[i]] w1 fun b w2 => b = .bool true ∧ I (i + 1) w2) :
    FnC Try.prog 98 #[.func (.yield L) #[] #[], ptr k1] w fun _ w' => I l.length w' := by
  obtain ⟨r0, b0, _⟩ := hI 0 w h0
  obtain ⟨o, c, rfl, gc1, gc2⟩ := r0.slice
  refine enter98 _ _ ?_
  unfold B98 ptr
  have f0 : w.cell? ⟨k1, 0, none⟩ = some (.slice o l.length c) := b0.cell 0
  repeat' (first | (simp (disch := omega) only [push_cast, ↓reduceIte, zA, zG, zB, zH, zI, zC, zJ, zK, zL, zD, zE, zF, zM, zN, zO, zP, zQ, reduceCtorEq, not_true_eq_false, not_false_eq_true, f0]) | (first | refine vIfE_of ?_ ?_ | refine vIfD_of ?_ ?_ | refine vIfQ_of ?_ ?_ | refine vIfV_of ?_ ?_) <;> intro _ | refine And.intro (by omega) ?_ | refine drawn_q ?_ | fail)
  refine vc_loop W98_0 (fun i : Nat => [(7, .int .i64 (i : Int))]) (fun i w' => i ≤ l.length ∧ I i w') (fun i => l.length - i) 0 (by decide) ?_ ?_ ?_
  · simp (disch := omega) only [push_cast, ↓reduceIte, zA, zG, zB, zH, zI, zC, zJ, zK, zL, zD, zE, zF, zM, zN, zO, zP, zQ, reduceCtorEq, not_true_eq_false, not_false_eq_true]
  · exact ⟨by omega, h0⟩
  rintro i uu w1 ⟨hi, h1⟩
  by_cases hlt : i < l.length
  · obtain ⟨r1, b1, e1⟩ := hI i w1 h1
    obtain ⟨a, rfl, f1⟩ := RecS.at elC_len r1 hlt
    have he := e1 l[i] (List.getElem_mem _)
    have hone := elC_one he
    have hyi := hy i hlt
    generalize l[i] = e at *
    have l2 := later_alloc w1 (.cells (elC e).toArray 35)
    have B2 := Blk.new w1 (elC e).toArray 35
    have f2 : cellsAt (w1.alloc (.cells (elC e).toArray 35)) ⟨w1.heap.size, 0, none⟩ 4 = some (elC e) := Blk.cellsAt (l := elC e) B2
    repeat' (first | (simp (disch := omega) only [push_cast, ↓reduceIte, zA, zG, zB, zH, zI, zC, zJ, zK, zL, zD, zE, zF, zM, zN, zO, zP, zQ, reduceCtorEq, not_true_eq_false, not_false_eq_true, f1]) | (first | refine vIfE_of ?_ ?_ | refine vIfD_of ?_ ?_ | refine vIfQ_of ?_ ?_ | refine vIfV_of ?_ ?_) <;> intro _ | refine And.intro (by omega) ?_ | refine drawn_q ?_ | fail)
    refine vStore_new rfl rfl (by simpa using hone) ?_
    have h2 := hstab i w1 _ h1 l2
    generalize w1.alloc (.cells (elC e).toArray 35) = w2 at *
    generalize w1.heap.size = k2 at *
    repeat' (first | (simp (disch := omega) only [push_cast, ↓reduceIte, zA, zG, zB, zH, zI, zC, zJ, zK, zL, zD, zE, zF, zM, zN, zO, zP, zQ, reduceCtorEq, not_true_eq_false, not_false_eq_true, f2]) | (first | refine vIfE_of ?_ ?_ | refine vIfD_of ?_ ?_ | refine vIfQ_of ?_ ?_ | refine vIfV_of ?_ ?_) <;> intro _ | refine And.intro (by omega) ?_ | refine drawn_q ?_ | fail)
    refine vcUp_mono (hyi w2 h2) ?_
    rintro _ w3 ⟨rfl, h3⟩
    repeat' (first | (simp (disch := omega) only [push_cast, ↓reduceIte, zA, zG, zB, zH, zI, zC, zJ, zK, zL, zD, zE, zF, zM, zN, zO, zP, zQ, reduceCtorEq, not_true_eq_false, not_false_eq_true]) | (first | refine vIfE_of ?_ ?_ | refine vIfD_of ?_ ?_ | refine vIfQ_of ?_ ?_ | refine vIfV_of ?_ ?_) <;> intro _ | refine And.intro (by omega) ?_ | refine drawn_q ?_ | fail)
    exact ⟨rfl, i + 1, by simp (disch := omega) only [push_cast, ↓reduceIte, zA, zG, zB, zH, zI, zC, zJ, zK, zL, zD, zE, zF, zM, zN, zO, zP, zQ, reduceCtorEq, not_true_eq_false, not_false_eq_true], ⟨by omega, h3⟩, by dsimp only; omega⟩
  · have e : i = l.length := by omega
    subst e
    repeat' (first | (simp (disch := omega) only [push_cast, ↓reduceIte, zA, zG, zB, zH, zI, zC, zJ, zK, zL, zD, zE, zF, zM, zN, zO, zP, zQ, reduceCtorEq, not_true_eq_false, not_false_eq_true]) | (first | refine vIfE_of ?_ ?_ | refine vIfD_of ?_ ?_ | refine vIfQ_of ?_ ?_ | refine vIfV_of ?_ ?_) <;> intro _ | refine And.intro (by omega) ?_ | refine drawn_q ?_ | fail)
    exact h1
/-- Rows behind rows of the call's own. -/
theorem vAppend_e {w : World} {K : Value → World → Prop} {ty : TypeId} {B : Nat} {v x : Value} {l r : List El} (hown : OwnE w B v l) (hx : RecS elC 4 w x r) (h1 : ∀ e ∈ r, EIs w e) (h63 : l.length + r.length ≤ 100000000) (hbase : B ≤ w.heap.size)
    (hK : ∀ v' w', OwnE w' B v' (l ++ r) → w.grownBy w' v.ownBlock → (v'.ownBlock = v.ownBlock ∨ v'.ownBlock = some w.heap.size) → K v' w') : vAppend Try.prog #[25, 25] ty #[v, x] K w := by
  refine vAppend_at Try.underlying25 ti35 rfl (by decide) hown hx ?_ (by unfold maxLen; omega) (by omega) hbase ?_
  · intro u hu
    obtain ⟨ys, hy, hu⟩ := List.mem_flatten.1 hu
    obtain ⟨p, hp, rfl⟩ := List.mem_map.1 hy
    exact elC_one (h1 p hp) u hu
  · intro v' w' ho hg hs
    refine hK v' w' ?_ hg hs
    unfold OwnE OwnR
    simpa using ho
/-- A literal's row, of what hangs on the world. -/
theorem nR_build {P : Program} {t n : Nat} {ps : Array (Nat × Operand)} {ty : TypeId} {rs : List Nat} {Ns : NS} {σ : Env} {w : World} {Kv : Value → Prop} {Kn : (Value → World → Prop) → Prop} (V' : Value → World → Prop) (hV' : Stb w V')
    (h : ∀ σ' w', Later w w' → psis Ns σ w' σ' rs → vBuildSlice P t n (ps.map fun (i, x) => (i, ev σ' x)) (fun v w'' => Later w' w'' ∧ V' v w'') w') (hk : Kn V') : nR P (.buildSlice t n ps) ty rs Ns σ w Kv Kn :=
  .inr ⟨V', hV', fun σ' w' hl hp => nUp_val (h σ' w' hl hp), hk⟩
/-- A row of one's own that says what another says, as a value, as a literal's row. -/
def OneV (B : Nat) (e : El) (v : Value) (w : World) : Prop := ∃ e' : El, v = elV e' ∧ e'.abs = e.abs ∧ EO w B e'
def OneR (B : Nat) (e : El) (v : Value) (w : World) : Prop := ∃ (e' : El) (b : Nat), v = .slice (some ⟨b, 0, none⟩) 1 1 ∧ e'.abs = e.abs ∧ EO w B e' ∧ Blk w b (elC e').toArray 35
theorem stb_oneV (w0 : World) (B : Nat) (e : El) : Stb w0 (OneV B e) := by
  rintro v w w' _ hl ⟨e', h1, h2, h3⟩
  exact ⟨e', h1, h2, h3.later hl⟩
theorem stb_oneR (w0 : World) (B : Nat) (e : El) : Stb w0 (OneR B e) := by
  rintro v w w' _ hl ⟨e', b, h1, h2, h3, h4⟩
  exact ⟨e', b, h1, h2, h3.later hl, h4.chg (Chg.of_later (ks := []) hl) (by simp)⟩
/-- What holds between the rounds. -/
structure CpS (w w' : World) (L : Nat) (o : Obj) (v : Value) (l : List El) (i : Nat) : Prop where
  le : i ≤ l.length
  rec_ : w'.heap[L]? = some o
  def_ : w'.heap[w.heap.size + 2]? = some (.deferred (some []))
  later : Later w w'
  box : Blk w' (w.heap.size + 1) #[v] 25
  out : ∃ ov es, Blk w' w.heap.size #[ov] 25 ∧ OwnE w' w.heap.size ov es ∧ es.map El.abs = (l.take i).map El.abs ∧ ∀ e ∈ es, EO w' w.heap.size e
theorem CpS.step {w w1 w2 : World} {L : Nat} {o : Obj} {v : Value} {l : List El} {i : Nat} (h : CpS w w1 L o v l i) (hl : Later w1 w2) : CpS w w2 L o v l i := by
  obtain ⟨h0, h1, h2, h3, h4, ov, es, h5, h6, h7, h8⟩ := h
  exact ⟨h0, heap_later h1 hl, heap_later h2 hl, h3.trans hl, h4.chg (Chg.of_later (ks := []) hl) (by simp), ov, es, h5.chg (Chg.of_later (ks := []) hl) (by simp), h6.later hl, h7, fun e he => (h8 e he).later hl⟩
theorem CpS.put {w w1 : World} {L : Nat} {o : Obj} {v : Value} {l : List El} {i : Nat} (h : CpS w w1 L o v l i) (ho : o.isCells = false) (hL : L = w.heap.size + 3) (o' : Obj) : CpS w (w1.putObj L o') L o' v l i := by
  obtain ⟨h0, h1, h2, h3, h4, ov, es, h5, h6, h7, h8⟩ := h
  have g := chg_putObj w1 (L := L) (ks := [L]) (by simp) o'
  exact ⟨h0, World.putObj_heap_same (Array.getElem?_eq_some_iff.1 h1).1, heap_chg h2 g (by simp; omega), g.later h3 (by simp; omega), h4.chg g (by simp; omega), ov, es, h5.chg g (by simp; omega), own_obj h6 h1 ho g, h7, fun e he => (h8 e he).obj h1 ho g⟩
/-- Rows that say what others say, of someone's own. -/
def CopyR (w : World) (B : Nat) (r : Value) (l : List El) : Prop := ∃ es, OwnE w B r es ∧ es.map El.abs = l.map El.abs ∧ ∀ e ∈ es, EO w B e
theorem copy_c (v : Value) (l : List El) (w : World) (h : RecS elC 4 w v l) (hes : ∀ e ∈ l, EIs w e ∧ e.d.length ≤ 1000000 ∧ e.a.length ≤ 1000000) (hl : l.length ≤ 100000) : FnC Try.prog 30 #[v] w fun r w' => CopyR w' w.heap.size r l ∧ Later w w' := by
  obtain ⟨o, c, rfl, gc1, gc2⟩ := h.slice
  refine enter30 _ ?_
  unfold B30
  have B0 := Blk.new w #[.slice none 0 0] 25
  have s0 := World.size_alloc w (.cells #[.slice none 0 0] 25)
  have l0 := later_alloc w (.cells #[.slice none 0 0] 25)
  repeat' (first | (simp (disch := omega) only [push_cast, ↓reduceIte, zA, zG, zB, zH, zI, zC, zJ, zK, zL, zD, zE, zF, zM, zN, zO, zP, zQ, reduceCtorEq, not_true_eq_false, not_false_eq_true]) | (first | refine vIfE_of ?_ ?_ | refine vIfD_of ?_ ?_ | refine vIfQ_of ?_ ?_ | refine vIfV_of ?_ ?_) <;> intro _ | refine And.intro (by omega) ?_ | refine drawn_q ?_ | fail)
  generalize w.alloc (.cells #[.slice none 0 0] 25) = w1 at *
  refine (values_c o l.length c w1).mono ?_
  rintro _ w2 ⟨rfl, hl2, hs2, bx⟩
  have B2 := B0.chg (Chg.of_later (ks := []) hl2) (by simp)
  have hl02 := l0.trans hl2
  rw [s0] at bx hs2 ⊢
  repeat' (first | (simp (disch := omega) only [push_cast, ↓reduceIte, zA, zG, zB, zH, zI, zC, zJ, zK, zL, zD, zE, zF, zM, zN, zO, zP, zQ, reduceCtorEq, not_true_eq_false, not_false_eq_true]) | (first | refine vIfE_of ?_ ?_ | refine vIfD_of ?_ ?_ | refine vIfQ_of ?_ ?_ | refine vIfV_of ?_ ?_) <;> intro _ | refine And.intro (by omega) ?_ | refine drawn_q ?_ | fail)
  refine rngC_of hb98 ?_
  rintro D L rec hrec hD hL hyl
  have hDe : D = w.heap.size + 2 := by omega
  have hLe : L = w.heap.size + 3 := by omega
  have hrL : ((w2.alloc (.deferred (some []))).alloc (rec .ready .normal)).heap[L]? = some (rec .ready .normal) := by
    have := World.alloc_heap_new (w2.alloc (.deferred (some []))) (rec .ready .normal)
    rw [World.size_alloc] at this
    rw [hL]; exact this
  have hrD : ((w2.alloc (.deferred (some []))).alloc (rec .ready .normal)).heap[D]? = some (.deferred (some [])) := by
    rw [hD]
    exact heap_later (World.alloc_heap_new w2 _) (later_alloc _ _)
  have hl3 := later_two w2 (.deferred (some [])) (rec .ready .normal)
  generalize (w2.alloc (.deferred (some []))).alloc (rec .ready .normal) = w3 at *
  have hl03 := hl02.trans hl3
  have bx3 := bx.chg (Chg.of_later (ks := []) hl3) (by simp)
  have B3 := B2.chg (Chg.of_later (ks := []) hl3) (by simp)
  rw [hDe] at hrD
  have hstc := vals_c L (w.heap.size + 1) (.slice o l.length c) l (fun i w' => CpS w w' L (rec .ready .normal) (.slice o l.length c) l i) w3
    ⟨by omega, hrL, hrD, hl03, bx3, _, [], B3, OwnR.nil _ _ _, rfl, by simp⟩ (by omega) (fun i w1 w2 h1 h2 => h1.step h2) (fun i w1 h1 => ⟨h.later h1.later, h1.box, fun e he => (hes e he).1.later h1.later⟩) ?_
  · refine hstc.mono ?_
    rintro _ w4 hS
    have hP := hS.put (hrec _ _) hLe (rec .exhausted .normal)
    refine .inl ⟨hS.rec_, ?_⟩
    obtain ⟨_, _, p2, p3, _, ov, es, p5, p6, p7, p8⟩ := hP
    have c1 : (w4.putObj L (rec .exhausted .normal)).cell? ⟨w.heap.size, 0, none⟩ = some ov := p5.cell 0
    have g2 := chg_putObj (w4.putObj L (rec .exhausted .normal)) (L := w.heap.size + 2) (ks := [w.heap.size + 2]) (by simp) (.deferred none)
    have q6 := own_obj p6 p2 rfl g2
    have q8 := fun e he => (p8 e he).obj p2 rfl g2
    have q3 := g2.later p3 (by simp)
    rw [List.take_length] at p7
    subst hDe
    repeat' (first | (simp (disch := omega) only [push_cast, ↓reduceIte, zA, zG, zB, zH, zI, zC, zJ, zK, zL, zD, zE, zF, zM, zN, zO, zP, zQ, reduceCtorEq, not_true_eq_false, not_false_eq_true, c1]) | (first | refine vIfE_of ?_ ?_ | refine vIfD_of ?_ ?_ | refine vIfQ_of ?_ ?_ | refine vIfV_of ?_ ?_) <;> intro _ | refine And.intro (by omega) ?_ | refine drawn_q ?_ | fail)
    exact ⟨⟨es, q6, p7, q8⟩, q3⟩
  · rintro i hi u1 h1
    refine hyl _ u1 _ ?_
    unfold Rnd
    refine ⟨h1.rec_, rfl, ?_⟩
    obtain ⟨he, hd, ha⟩ := hes l[i] (List.getElem_mem _)
    have htk : (l.take (i + 1)).map El.abs = (l.take i).map El.abs ++ [l[i].abs] := by rw [take_snoc l i hi, List.map_append]; rfl
    generalize l[i] = e at *
    unfold elV
    repeat' (first | (simp (disch := omega) only [push_cast, ↓reduceIte, zA, zG, zB, zH, zI, zC, zJ, zK, zL, zD, zE, zF, zM, zN, zO, zP, zQ, reduceCtorEq, not_true_eq_false, not_false_eq_true]) | (first | refine vIfE_of ?_ ?_ | refine vIfD_of ?_ ?_ | refine vIfQ_of ?_ ?_ | refine vIfV_of ?_ ?_) <;> intro _ | refine And.intro (by omega) ?_ | refine drawn_q ?_ | fail)
    refine vStore_new rfl rfl (elC_one he) ?_
    have l2 := later_alloc u1 (.cells #[.int .i64 e.t, e.dv, .int .i64 e.n, e.av] 35)
    have Ba := Blk.new u1 #[.int .i64 e.t, e.dv, .int .i64 e.n, e.av] 35
    have hu1L : L < u1.heap.size := (Array.getElem?_eq_some_iff.1 h1.rec_).1
    have h2 := h1.step l2
    generalize hka : u1.heap.size = ka at *
    generalize u1.alloc (.cells #[.int .i64 e.t, e.dv, .int .i64 e.n, e.av] 35) = u2 at *
    have r1 := h2.rec_
    repeat' (first | (simp (disch := omega) only [push_cast, ↓reduceIte, zA, zG, zB, zH, zI, zC, zJ, zK, zL, zD, zE, zF, zM, zN, zO, zP, zQ, reduceCtorEq, not_true_eq_false, not_false_eq_true]) | (first | refine vIfE_of ?_ ?_ | refine vIfD_of ?_ ?_ | refine vIfQ_of ?_ ?_ | refine vIfV_of ?_ ?_) <;> intro _ | refine And.intro (by omega) ?_ | refine drawn_q ?_ | fail)
    have h3 := h2.put (hrec _ _) hLe (rec .busy .normal)
    have qa := Ba.chg (chg_putObj u2 (L := L) (ks := [L]) (by simp) (rec .busy .normal)) (by simp; omega)
    generalize u2.putObj L (rec .busy .normal) = u3 at *
    obtain ⟨g0, g1, g2, g3, g4, ov, es, g5, g6, g7, g8⟩ := h3
    have c0 : u3.cell? ⟨w.heap.size, 0, none⟩ = some ov := g5.cell 0
    have ca : cellsAt u3 ⟨ka, 0, none⟩ 4 = some [.int .i64 e.t, e.dv, .int .i64 e.n, e.av] := Blk.cellsAt (l := [.int .i64 e.t, e.dv, .int .i64 e.n, e.av]) qa
    have hsz := g3.size
    have he3 := he.later g3
    repeat' (first | (simp (disch := omega) only [push_cast, ↓reduceIte, zA, zG, zB, zH, zI, zC, zJ, zK, zL, zD, zE, zF, zM, zN, zO, zP, zQ, reduceCtorEq, not_true_eq_false, not_false_eq_true]) | (first | refine vIfE_of ?_ ?_ | refine vIfD_of ?_ ?_ | refine vIfQ_of ?_ ?_ | refine vIfV_of ?_ ?_) <;> intro _ | refine And.intro (by omega) ?_ | fail)
    refine drawnR_k 4 ?_
    repeat' (first | (simp (disch := omega) only [push_cast, ↓reduceIte, zA, zG, zB, zH, zI, zC, zJ, zK, zL, zD, zE, zF, zM, zN, zO, zP, zQ, reduceCtorEq, not_true_eq_false, not_false_eq_true, c0, ca]) | (first | refine vIfE_of ?_ ?_ | refine vIfD_of ?_ ?_ | refine vIfQ_of ?_ ?_ | refine vIfV_of ?_ ?_) <;> intro _ | refine And.intro (by omega) ?_ | fail)
    refine NFn.of hb69 (OneV w.heap.size e) (stb_oneV _ _ _) (fun w' hl => (own_c e w' (he3.later hl) hd ha).mono ?_) ?_
    · rintro v w'' ⟨x, y, rfl, hE, hl'⟩
      exact ⟨⟨_, rfl, rfl, hE.base (Nat.le_trans hsz hl.size)⟩, hl'⟩
    repeat' (first | (simp (disch := omega) only [push_cast, ↓reduceIte, zA, zG, zB, zH, zI, zC, zJ, zK, zL, zD, zE, zF, zM, zN, zO, zP, zQ, reduceCtorEq, not_true_eq_false, not_false_eq_true]) | (first | refine vIfE_of ?_ ?_ | refine vIfD_of ?_ ?_ | refine vIfQ_of ?_ ?_ | refine vIfV_of ?_ ?_) <;> intro _ | refine And.intro (by omega) ?_ | fail)
    refine nR_build (OneR w.heap.size e) (stb_oneR _ _ _) (fun σ' w' hl hp => ?_) ?_
    · have h10 : OneV w.heap.size e (σ' 10) w' := hp.1
      obtain ⟨e', hv, hab, hE⟩ := h10
      have hv' : σ' 10 = .agg #[.int .i64 e'.t, e'.dv, .int .i64 e'.n, e'.av] := hv
      repeat' (first | (simp (disch := omega) only [push_cast, ↓reduceIte, zA, zG, zB, zH, zI, zC, zJ, zK, zL, zD, zE, zF, zM, zN, zO, zP, zQ, reduceCtorEq, not_true_eq_false, not_false_eq_true, hv']) | (first | refine vIfE_of ?_ ?_ | refine vIfD_of ?_ ?_ | refine vIfQ_of ?_ ?_ | refine vIfV_of ?_ ?_) <;> intro _ | refine And.intro (by omega) ?_ | fail)
      exact ⟨later_alloc _ _, e', w'.heap.size, rfl, hab, hE.later (later_alloc _ _), Blk.new _ _ _⟩
    repeat' (first | (simp (disch := omega) only [push_cast, ↓reduceIte, zA, zG, zB, zH, zI, zC, zJ, zK, zL, zD, zE, zF, zM, zN, zO, zP, zQ, reduceCtorEq, not_true_eq_false, not_false_eq_true]) | (first | refine vIfE_of ?_ ?_ | refine vIfD_of ?_ ?_ | refine vIfQ_of ?_ ?_ | refine vIfV_of ?_ ?_) <;> intro _ | refine And.intro (by omega) ?_ | fail)
    rintro w4 l4 x ⟨e', b, rfl, hab, hE, hb⟩ y _
    have k1 := heap_later g1 l4
    have k2 := heap_later g2 l4
    have k3 := g3.trans l4
    have k4 := g4.chg (Chg.of_later (ks := []) l4) (by simp)
    have k5 := g5.chg (Chg.of_later (ks := []) l4) (by simp)
    have k6 := g6.later l4
    have k8 := fun e he => (g8 e he).later l4
    have hesl : es.length = i := by
      have := congrArg List.length g7
      simp only [List.length_map, List.length_take] at this
      omega
    refine vAppend_e (B := w.heap.size) (l := es) (r := [e']) k6 (RecS.lit1 (elC_len e') hb) (by intro z hz; rw [List.mem_singleton.1 hz]; exact hE.is) (by simp; omega) k3.size ?_
    intro v' u5 ho hg _
    have v1 := grown_obj k6 hg k1 (not_cells (hrec _ _) _)
    have v2 := grown_obj k6 hg k2 (not_cells rfl _)
    have v4 : Blk u5 _ _ 25 := grown_obj k6 hg k4 (fun cs h => by simp at h)
    have v5 : Blk u5 w.heap.size _ 25 := grown_obj k6 hg k5 (fun cs h => by simp at h)
    have v3 := k3.appended k6 (Nat.le_refl _) hg
    have v8 : ∀ z ∈ es ++ [e'], EO u5 w.heap.size z := by
      intro z hz
      rcases List.mem_append.1 hz with hz | hz
      · exact (k8 z hz).grown k6 hg
      · rw [List.mem_singleton.1 hz]; exact hE.grown k6 hg
    obtain ⟨o2, c2, hv2, _⟩ := RecS.slice (OwnR.s ho)
    subst hv2
    have hfz := v5.frozen 0
    have hce : ∃ y, u5.cell? ⟨w.heap.size, 0, none⟩ = some y := ⟨_, v5.cell 0⟩
    have gc := chg_setCell (i := 0) u5 (ks := [w.heap.size]) (k := w.heap.size) (by simp) (.slice o2 (es ++ [e']).length c2)
    have z5 := v5.set 0 (.slice o2 (es ++ [e']).length c2)
    repeat' (first | (simp (disch := omega) only [push_cast, ↓reduceIte, zA, zG, zB, zH, zI, zC, zJ, zK, zL, zD, zE, zF, zM, zN, zO, zP, zQ, reduceCtorEq, not_true_eq_false, not_false_eq_true, hfz, hce]) | (first | refine vIfE_of ?_ ?_ | refine vIfD_of ?_ ?_ | refine vIfQ_of ?_ ?_ | refine vIfV_of ?_ ?_) <;> intro _ | refine And.intro (by omega) ?_ | refine drawn_q ?_ | fail)
    have z1 := heap_chg v1 gc (by simp; omega)
    have z2 := heap_chg v2 gc (by simp)
    have z3 := gc.later v3 (by simp)
    have z4 := v4.chg gc (by simp)
    have z6 := own_chg_ty ho v5 (by decide) gc
    have z8 := fun z hz => (v8 z hz).cellOut v5 gc
    generalize u5.setCell ⟨w.heap.size, 0, none⟩ (.slice o2 (es ++ [e']).length c2) = u6 at *
    have hS : CpS w u6 L (rec .busy .normal) (.slice o l.length c) l (i + 1) := ⟨by omega, z1, z2, z3, z4, _, es ++ [e'], z5, z6, by rw [List.map_append, g7, htk, List.map_singleton, hab], z8⟩
    have hP := hS.put (hrec _ _) hLe (rec .ready .normal)
    repeat' (first | (simp (disch := omega) only [push_cast, ↓reduceIte, zA, zG, zB, zH, zI, zC, zJ, zK, zL, zD, zE, zF, zM, zN, zO, zP, zQ, reduceCtorEq, not_true_eq_false, not_false_eq_true]) | (first | refine vIfE_of ?_ ?_ | refine vIfD_of ?_ ?_ | refine vIfQ_of ?_ ?_ | refine vIfV_of ?_ ?_) <;> intro _ | refine And.intro (by omega) ?_ | refine drawn_q ?_ | fail)
    first | exact ⟨z1, rfl, hP⟩ | exact ⟨rfl, hP⟩ | exact hP
end Go.Proofs.Ythihbgpaoldbjaa
end
section
namespace Go.Fold
open Go.Key Go.Stab Go.Proofs.Ythihbgpaoldbjaa
abbrev R := Int × List ByteArray × Int × List Ag
def rcmp (x y : R) : Int := ckey x.1 x.2.1 y.1 y.2.1
def rlt (x y : R) : Bool := decide (rcmp x y < 0)
theorem rlt_swo : Swo rlt := swo_key (fun r : R => r.1) (fun r => r.2.1)
abbrev Same (x y : R) : Prop := x.1 = y.1 ∧ x.2.1 = y.2.1
theorem rlt_l {x y z : R} (h : Same x y) : rlt x z = rlt y z := by unfold rlt rcmp; rw [h.1, h.2]
theorem rlt_r {x y z : R} (h : Same x y) : rlt z x = rlt z y := by unfold rlt rcmp; rw [h.1, h.2]
theorem eqv_same {x y : R} : eqv rlt x y = true ↔ Same x y := by
  have h := ckey_is x.1 x.2.1 y.1 y.2.1
  have e : eqv rlt x y = (!decide (ckey x.1 x.2.1 y.1 y.2.1 < 0) && !decide (ckey y.1 y.2.1 x.1 x.2.1 < 0)) := rfl
  rw [e]
  rcases h with ⟨h1, h2, h3⟩ | ⟨h1, h2, h3⟩ | ⟨h1, h2, h3⟩
  · rw [h1, h2]
    exact ⟨fun h => (by simp at h), fun h => absurd h h3⟩
  · rw [h1, h2]
    exact ⟨fun _ => h3, fun _ => rfl⟩
  · rw [h1, h2]
    exact ⟨fun h => (by simp at h), fun h => absurd h h3⟩
theorem cmp_zero {x y : R} : rcmp x y = 0 ↔ Same x y := by
  have h := ckey_is x.1 x.2.1 y.1 y.2.1
  unfold rcmp
  rcases h with ⟨h1, h2, h3⟩ | ⟨h1, h2, h3⟩ | ⟨h1, h2, h3⟩
  · rw [h1]
    exact ⟨fun h => (by cases h), fun h => absurd h h3⟩
  · rw [h1]
    exact ⟨fun _ => h3, fun _ => rfl⟩
  · rw [h1]
    exact ⟨fun h => (by cases h), fun h => absurd h h3⟩
def jaggs : List Ag → List Ag → Option (List Ag)
  | [], _ => some []
  | _ :: _, [] => none
  | a :: x, b :: y => if Fi (a.1 + b.1) then (jaggs x y).map (ajn a b :: ·) else none
/-- Two rows of one key, joined. -/
def jn (x y : R) : Option R := if 1048576 < x.2.2.1 + y.2.2.1 then none else (jaggs x.2.2.2 y.2.2.2).map fun l => (x.1, x.2.1, x.2.2.1 + y.2.2.1, l)
theorem jn_key {x y z : R} (h : jn x y = some z) : Same x z := by
  unfold jn at h
  split at h
  · cases h
  · obtain ⟨l, _, rfl⟩ := Option.map_eq_some_iff.1 h
    exact ⟨rfl, rfl⟩
def jfold : List R → Option R
  | [] => none
  | r :: c => c.foldl (fun o s => o.bind (jn · s)) (some r)
theorem jfold_snoc {c : List R} (h : c ≠ []) (r : R) : jfold (c ++ [r]) = (jfold c).bind (jn · r) := by
  cases c with
  | nil => exact absurd rfl h
  | cons a c => simp [jfold, List.foldl_append]
theorem foldl_none (c : List R) : c.foldl (fun o s => o.bind (jn · s)) (none : Option R) = none := by
  induction c with
  | nil => rfl
  | cons a c ih => simpa using ih
theorem jfold_none {c : List R} (h : c ≠ []) (hn : jfold c = none) (d : List R) : jfold (c ++ d) = none := by
  cases c with
  | nil => exact absurd rfl h
  | cons a c =>
    simp only [jfold, List.cons_append, List.foldl_append] at hn ⊢
    rw [hn, foldl_none]
/-- Some key's rows cannot be joined. -/
def Bad (l : List R) : Prop := ∃ x ∈ l, jfold (l.filter (eqv rlt x)) = none
structure F (l out : List R) : Prop where
  srt : out.Pairwise fun a b => rlt a b = true
  nil : ∀ x, l.filter (eqv rlt x) = [] → out.filter (eqv rlt x) = []
  one : ∀ x, l.filter (eqv rlt x) ≠ [] → ∃ z, jfold (l.filter (eqv rlt x)) = some z ∧ out.filter (eqv rlt x) = [z]
theorem eqv_refl (x : R) : eqv rlt x x = true := eqv_same.2 ⟨rfl, rfl⟩
theorem mem_ne {l : List R} {x : R} (h : x ∈ l) : l.filter (eqv rlt x) ≠ [] := by
  intro he
  have : x ∈ l.filter (eqv rlt x) := List.mem_filter.2 ⟨h, eqv_refl x⟩
  rw [he] at this; cases this
theorem F.ok {l out : List R} (h : F l out) : ¬ Bad l := by
  rintro ⟨x, hx, hn⟩
  obtain ⟨z, hz, _⟩ := h.one x (mem_ne hx)
  rw [hn] at hz; cases hz
theorem Bad.more {l : List R} (h : Bad l) (d : List R) : Bad (l ++ d) := by
  obtain ⟨x, hx, hn⟩ := h
  exact ⟨x, List.mem_append_left _ hx, by rw [List.filter_append]; exact jfold_none (mem_ne hx) hn _⟩
theorem F.start : F [] [] := ⟨List.Pairwise.nil, fun _ _ => rfl, fun _ h => absurd rfl h⟩
/-- A row of a key that is there. -/
theorem F.join {l A B : List R} {b r : R} (h : F l (A ++ b :: B)) (hs : Same b r) : (jn b r = none → Bad (l ++ [r])) ∧ ∀ x, jn b r = some x → F (l ++ [r]) (A ++ x :: B) := by
  have key : ∀ x, eqv rlt x r = true → A.filter (eqv rlt x) = [] ∧ B.filter (eqv rlt x) = [] ∧ l.filter (eqv rlt x) ≠ [] ∧ jfold (l.filter (eqv rlt x)) = some b := by
    intro x hx
    have hxr := eqv_same.1 hx
    have hb : eqv rlt x b = true := eqv_same.2 ⟨hxr.1.trans hs.1.symm, hxr.2.trans hs.2.symm⟩
    have hne : l.filter (eqv rlt x) ≠ [] := by
      intro he
      have := h.nil x he
      rw [List.filter_append, List.filter_cons_of_pos hb] at this
      simp at this
    obtain ⟨z, hz, hf⟩ := h.one x hne
    rw [List.filter_append, List.filter_cons_of_pos hb] at hf
    have hA : A.filter (eqv rlt x) = [] := by
      cases hA : A.filter (eqv rlt x) with
      | nil => rfl
      | cons a T => rw [hA] at hf; simp at hf
    rw [hA, List.nil_append] at hf
    obtain ⟨e1, e2⟩ := List.cons.inj hf
    exact ⟨hA, e2, hne, by rw [hz, e1]⟩
  constructor
  · intro hn
    obtain ⟨_, _, hne, hj⟩ := key r (eqv_refl r)
    refine ⟨r, by simp, ?_⟩
    rw [List.filter_append, List.filter_cons_of_pos (eqv_refl r), List.filter_nil, jfold_snoc hne, hj]
    exact hn
  · intro x' hx'
    have hk := jn_key hx'
    refine ⟨?_, fun x hx => ?_, fun x hx => ?_⟩
    · have := h.srt
      rw [List.pairwise_append, List.pairwise_cons] at this ⊢
      obtain ⟨p1, ⟨p2, p3⟩, p4⟩ := this
      refine ⟨p1, ⟨fun c hc => by rw [← rlt_l hk]; exact p2 c hc, p3⟩, fun a ha c hc => ?_⟩
      rcases List.mem_cons.1 hc with rfl | hc
      · rw [← rlt_r hk]; exact p4 a ha b (by simp)
      · exact p4 a ha c (List.mem_cons_of_mem _ hc)
    · rw [List.filter_append] at hx
      obtain ⟨h1, h2⟩ := List.append_eq_nil_iff.1 hx
      have hxr : ¬ eqv rlt x r = true := fun hh => by rw [List.filter_cons_of_pos hh] at h2; cases h2
      have hxx : ¬ eqv rlt x x' = true := fun hh => hxr (eqv_same.2 ⟨(eqv_same.1 hh).1.trans (hk.1.symm.trans hs.1), (eqv_same.1 hh).2.trans (hk.2.symm.trans hs.2)⟩)
      have hxb : ¬ eqv rlt x b = true := fun hh => hxr (eqv_same.2 ⟨(eqv_same.1 hh).1.trans hs.1, (eqv_same.1 hh).2.trans hs.2⟩)
      have := h.nil x h1
      rw [List.filter_append, List.filter_cons_of_neg hxb] at this
      rw [List.filter_append, List.filter_cons_of_neg hxx]
      exact this
    · by_cases hxr : eqv rlt x r = true
      · obtain ⟨hA, hB, hne, hj⟩ := key x hxr
        have hxx : eqv rlt x x' = true := eqv_same.2 ⟨(eqv_same.1 hxr).1.trans (hs.1.symm.trans hk.1), (eqv_same.1 hxr).2.trans (hs.2.symm.trans hk.2)⟩
        refine ⟨x', ?_, ?_⟩
        · rw [List.filter_append, List.filter_cons_of_pos hxr, List.filter_nil, jfold_snoc hne, hj]
          exact hx'
        · rw [List.filter_append, List.filter_cons_of_pos hxx, hA, hB]; rfl
      · have hxx : ¬ eqv rlt x x' = true := fun hh => hxr (eqv_same.2 ⟨(eqv_same.1 hh).1.trans (hk.1.symm.trans hs.1), (eqv_same.1 hh).2.trans (hk.2.symm.trans hs.2)⟩)
        have hxb : ¬ eqv rlt x b = true := fun hh => hxr (eqv_same.2 ⟨(eqv_same.1 hh).1.trans hs.1, (eqv_same.1 hh).2.trans hs.2⟩)
        rw [List.filter_append, List.filter_cons_of_neg hxr, List.filter_nil, List.append_nil] at hx ⊢
        obtain ⟨z, hz, hf⟩ := h.one x hx
        rw [List.filter_append, List.filter_cons_of_neg hxb] at hf
        exact ⟨z, hz, by rw [List.filter_append, List.filter_cons_of_neg hxx]; exact hf⟩
/-- A row of a new key. -/
theorem F.add {l A B : List R} {r : R} (h : F l (A ++ B)) (hA : ∀ a ∈ A, rlt a r = true) (hB : ∀ b ∈ B, rlt r b = true) : F (l ++ [r]) (A ++ r :: B) := by
  have no : ∀ x c, eqv rlt x r = true → (rlt c r = true ∨ rlt r c = true) → ¬ eqv rlt x c = true := by
    intro x c hx hc hh
    have h1 := eqv_same.1 hx
    have h2 := eqv_same.1 hh
    have hs : Same c r := ⟨h2.1.symm.trans h1.1, h2.2.symm.trans h1.2⟩
    rcases hc with hc | hc
    · rw [rlt_l hs, rlt_swo.irr] at hc; cases hc
    · rw [rlt_r hs, rlt_swo.irr] at hc; cases hc
  refine ⟨?_, fun x hx => ?_, fun x hx => ?_⟩
  · have := h.srt
    rw [List.pairwise_append] at this ⊢
    obtain ⟨p1, p2, p3⟩ := this
    refine ⟨p1, List.pairwise_cons.2 ⟨hB, p2⟩, fun a ha c hc => ?_⟩
    rcases List.mem_cons.1 hc with rfl | hc
    · exact hA a ha
    · exact p3 a ha c hc
  · rw [List.filter_append] at hx
    obtain ⟨h1, h2⟩ := List.append_eq_nil_iff.1 hx
    have hxr : ¬ eqv rlt x r = true := fun hh => by rw [List.filter_cons_of_pos hh] at h2; cases h2
    have := h.nil x h1
    rw [List.filter_append] at this ⊢
    rw [List.filter_cons_of_neg hxr]
    exact this
  · by_cases hxr : eqv rlt x r = true
    · have fA : A.filter (eqv rlt x) = [] := List.filter_eq_nil_iff.2 fun a ha => no x a hxr (.inl (hA a ha))
      have fB : B.filter (eqv rlt x) = [] := List.filter_eq_nil_iff.2 fun a ha => no x a hxr (.inr (hB a ha))
      have hl : l.filter (eqv rlt x) = [] := by
        apply Classical.byContradiction
        intro hne
        obtain ⟨z, _, hf⟩ := h.one x hne
        rw [List.filter_append, fA, fB] at hf
        cases hf
      refine ⟨r, ?_, ?_⟩
      · rw [List.filter_append, hl, List.filter_cons_of_pos hxr]; rfl
      · rw [List.filter_append, fA, List.filter_cons_of_pos hxr, fB]; rfl
    · rw [List.filter_append, List.filter_cons_of_neg hxr, List.filter_nil, List.append_nil] at hx ⊢
      obtain ⟨z, hz, hf⟩ := h.one x hx
      rw [List.filter_append] at hf
      exact ⟨z, hz, by rw [List.filter_append, List.filter_cons_of_neg hxr]; exact hf⟩
/-- What either Fold answers. -/
def Res (l : List R) : Option (List R) → Prop
  | none => Bad l
  | some out => F l out
theorem Res.one {l l' : List R} (hs : Stb rlt l l') {o o' : Option (List R)} (h : Res l o) (h' : Res l' o') : o' = o := by
  have hb : Bad l ↔ Bad l' := by
    constructor
    · rintro ⟨x, hx, hn⟩; exact ⟨x, (hs.mem rlt_swo x).2 hx, by rw [hs.2]; exact hn⟩
    · rintro ⟨x, hx, hn⟩; exact ⟨x, (hs.mem rlt_swo x).1 hx, by rw [← hs.2]; exact hn⟩
  cases o with
  | none =>
    cases o' with
    | none => rfl
    | some out' => exact absurd (hb.1 h) (F.ok h')
  | some out =>
    cases o' with
    | none => exact absurd (hb.2 h') (F.ok h)
    | some out' =>
      have h : F l out := h
      have h' : F l' out' := h'
      congr 1
      refine one_way rlt_swo (List.Pairwise.imp (fun hab => rlt_swo.asym _ _ hab) h.srt) (List.Pairwise.imp (fun hab => rlt_swo.asym _ _ hab) h'.srt) fun x => ?_
      by_cases hx : l.filter (eqv rlt x) = []
      · rw [h.nil x hx, h'.nil x (by rw [hs.2]; exact hx)]
      · obtain ⟨z, hz, hf⟩ := h.one x hx
        obtain ⟨z', hz', hf'⟩ := h'.one x (by rw [hs.2]; exact hx)
        rw [hs.2, hz] at hz'
        cases hz'
        rw [hf, hf']
end Go.Fold
end
section
namespace Go.Fold
open Go.Proofs.Ythihbgpaoldbjaa
theorem jaggs_snoc : ∀ (x y : List Ag) (a b : Ag), x.length = y.length → jaggs (x ++ [a]) (y ++ [b]) = (jaggs x y).bind fun l => if Fi (a.1 + b.1) then some (l ++ [ajn a b]) else none
  | [], [], a, b, _ => by
    simp only [List.nil_append, jaggs]
    split <;> simp
  | [], _ :: _, _, _, h => by simp at h
  | _ :: _, [], _, _, h => by simp at h
  | c :: x, d :: y, a, b, h => by
    have ih := jaggs_snoc x y a b (by simpa using h)
    simp only [List.cons_append, jaggs, ih]
    by_cases hc : Fi (c.1 + d.1)
    · rw [if_pos hc, if_pos hc]
      cases jaggs x y with
      | none => rfl
      | some l =>
        simp only [Option.bind_some, Option.map_some]
        by_cases hf : Fi (a.1 + b.1)
        · rw [if_pos hf, if_pos hf]; rfl
        · rw [if_neg hf, if_neg hf]; rfl
    · rw [if_neg hc, if_neg hc]; rfl
theorem jaggs_none : ∀ (x y : List Ag) (x' y' : List Ag), x.length = y.length → jaggs x y = none → jaggs (x ++ x') (y ++ y') = none
  | [], [], _, _, _, h => by simp [jaggs] at h
  | [], _ :: _, _, _, h, _ => by simp at h
  | _ :: _, [], _, _, h, _ => by simp at h
  | c :: x, d :: y, x', y', h, hn => by
    simp only [List.cons_append, jaggs] at hn ⊢
    by_cases hc : Fi (c.1 + d.1)
    · rw [if_pos hc] at hn ⊢
      have := jaggs_none x y x' y' (by simpa using h) (by simpa using hn)
      rw [this]; rfl
    · rw [if_neg hc]
theorem jaggs_step {x y : List Ag} (h : x.length = y.length) {i : Nat} (hi : i < x.length) (hj : i < y.length) {l : List Ag} (hl : jaggs (x.take i) (y.take i) = some l) :
    (Fi (x[i].1 + y[i].1) → jaggs (x.take (i + 1)) (y.take (i + 1)) = some (l ++ [ajn x[i] y[i]])) ∧ (¬ Fi (x[i].1 + y[i].1) → jaggs x y = none) := by
  have e : jaggs (x.take (i + 1)) (y.take (i + 1)) = if Fi (x[i].1 + y[i].1) then some (l ++ [ajn x[i] y[i]]) else none := by
    rw [Go.Vc.take_snoc x i hi, Go.Vc.take_snoc y i hj, jaggs_snoc _ _ _ _ (by simp; omega), hl]; rfl
  constructor
  · intro hf; rw [e, if_pos hf]
  · intro hf
    rw [if_neg hf] at e
    have := jaggs_none _ _ (x.drop (i + 1)) (y.drop (i + 1)) (by simp; omega) e
    rwa [List.take_append_drop, List.take_append_drop] at this
theorem jaggs_len : ∀ (x y l : List Ag), x.length = y.length → jaggs x y = some l → l.length = x.length
  | [], _, l, _, h => by simp [jaggs] at h; simp [h]
  | _ :: _, [], _, h, _ => by simp at h
  | c :: x, d :: y, l, hl, h => by
    simp only [jaggs] at h
    by_cases hc : Fi (c.1 + d.1)
    · rw [if_pos hc] at h
      obtain ⟨m, hm, rfl⟩ := Option.map_eq_some_iff.1 h
      simp [jaggs_len x y m (by simpa using hl) hm]
    · rw [if_neg hc] at h; cases h
theorem jaggs_rt : ∀ (x y l : List Ag), (∀ a ∈ x, ARt a) → (∀ a ∈ y, ARt a) → jaggs x y = some l → ∀ a ∈ l, ARt a
  | [], _, l, _, _, h => by simp [jaggs] at h; simp [h]
  | _ :: _, [], l, _, _, h => by simp [jaggs] at h
  | c :: x, d :: y, l, hx, hy, h => by
    simp only [jaggs] at h
    by_cases hc : Fi (c.1 + d.1)
    · rw [if_pos hc] at h
      obtain ⟨m, hm, rfl⟩ := Option.map_eq_some_iff.1 h
      intro a ha
      rcases List.mem_cons.1 ha with rfl | ha
      · exact ajn_rt (hx c (by simp)) (hy d (by simp)) hc
      · exact jaggs_rt x y m (fun a ha => hx a (by simp [ha])) (fun a ha => hy a (by simp [ha])) hm a ha
    · rw [if_neg hc] at h; cases h
end Go.Fold
namespace Go.Proofs.Ythihbgpaoldbjaa
open Go.Vc Go.Key Go.Stab Go.Fold
set_option maxRecDepth 100000
/-- What either Join answers. -/
def JR (x y z : El) (e : Int) : Prop := (ecmp x y ≠ 0 ∧ e = 131 ∧ z.abs = (0, [], 0, [])) ∨ (ecmp x y = 0 ∧ jn x.abs y.abs = none ∧ e = 121 ∧ z.abs = (0, [], 0, [])) ∨ (ecmp x y = 0 ∧ e = 0 ∧ jn x.abs y.abs = some z.abs)
theorem jn_abs (x y : El) : jn x.abs y.abs = if 1048576 < x.n + y.n then none else (jaggs x.a y.a).map fun l => (x.t, x.d, x.n + y.n, l) := rfl
/-- A row right enough to be joined. -/
structure Rr (e : El) : Prop where
  n1 : 1 ≤ e.n
  n2 : e.n ≤ 1048576
  ag : ∀ a ∈ e.a, ARt a
  dl : e.d.length ≤ 1000
  al : e.a.length ≤ 1000
theorem JR.rr {x y z : El} {q : R} (hx : Rr x) (hy : Rr y) (hl : x.a.length = y.a.length) (h : jn x.abs y.abs = some z.abs) : Rr z ∧ z.d.length = x.d.length ∧ z.a.length = x.a.length := by
  rw [jn_abs] at h
  split at h
  · cases h
  · rename_i hn
    obtain ⟨l, hj, he⟩ := Option.map_eq_some_iff.1 h
    unfold El.abs at he
    simp only [Prod.mk.injEq] at he
    obtain ⟨e1, e2, e3, e4⟩ := he
    have := jaggs_len _ _ _ hl hj
    have n1 := hx.n1
    have n2 := hy.n1
    refine ⟨⟨by omega, by omega, by rw [← e4]; exact jaggs_rt _ _ _ hx.ag hy.ag hj, by rw [← e2]; exact hx.dl, by rw [← e4, this]; exact hx.al⟩, by rw [← e2], by rw [← e4, this]⟩
end Go.Proofs.Ythihbgpaoldbjaa
end
section
set_option linter.unusedSimpArgs false
namespace Go.Vc
/-- A struct put together, of what hangs on the world. -/
theorem nR_bld {P : Program} {t : TypeId} {ps : Array (Nat × Operand)} {ty : TypeId} {rs : List Nat} {Ns : NS} {σ : Env} {w : World} {Kv : Value → Prop} {Kn : (Value → World → Prop) → Prop} (V' : Value → World → Prop) (hV' : Stb w V')
    (h : ∀ σ' w', Later w w' → psis Ns σ w' σ' rs → vBuild P t (ps.map fun (i, x) => (i, ev σ' x)) (fun v w'' => Later w' w'' ∧ V' v w'') w') (hk : Kn V') : nR P (.build t ps) ty rs Ns σ w Kv Kn :=
  .inr ⟨V', hV', fun σ' w' hl hp => nUp_val (h σ' w' hl hp), hk⟩
/-- A new block's place. -/
def PtV (w0 : World) (e : TypeId) (cs : Array Value) (v : Value) (w : World) : Prop := ∃ b, v = .pointer (some ⟨b, 0, none⟩) ∧ w0.heap.size ≤ b ∧ Blk w b cs e
theorem stb_pt (w0 w1 : World) (e : TypeId) (cs : Array Value) : Stb w1 (PtV w0 e cs) := by
  rintro v w w' _ hl ⟨b, h1, h2, h3⟩
  exact ⟨b, h1, h2, h3.chg (Chg.of_later (ks := []) hl) (by simp)⟩
end Go.Vc
namespace Go.Proofs.Ythihbgpaoldbjaa
open Go.Vc Go.Key Go.Stab Go.Fold
set_option maxRecDepth 100000
abbrev z0 : El := ⟨0, [], 0, [], .slice none 0 0, .slice none 0 0⟩
theorem EO.zero (w : World) (B : Nat) : EO w B z0 := ⟨own_nil w _ _ 1, OwnR.nil w _ _⟩
def RowB (B : Nat) (t n : Int) (d : List ByteArray) (v : Value) (w : World) : Prop := ∃ u, v = .agg #[.int .i64 t, u, .int .i64 n, .slice none 0 0] ∧ OwnS w B u d
theorem stb_rowB (w0 : World) (B : Nat) (t n : Int) (d : List ByteArray) : Stb w0 (RowB B t n d) := by
  rintro v w w' _ hl ⟨u, h1, h2⟩
  exact ⟨u, h1, own_later h2 hl⟩
theorem ownS_grown {w w' : World} {B B' : Nat} {u v : Value} {d : List ByteArray} {es : List Ag} (h : OwnS w B u d) (hv : OwnA w B' v es) (g : w.grownBy w' v.ownBlock) : OwnS w' B u d := by
  have gc := Chg.of_grown g
  obtain ⟨o, c, rfl, _⟩ := RecS.slice (OwnR.s hv)
  cases o with
  | none => exact own_later h ⟨gc.os, gc.tape, gc.output, gc.size, fun k hk => gc.block k hk (by simp [Value.ownBlock])⟩
  | some a =>
    obtain ⟨k, rfl, _, _, ⟨cs, hb⟩, _⟩ := own_writes hv
    exact own_chg_ty h hb (by decide) gc
/-- What holds between the rounds of Join. -/
structure JS (w w' : World) (b : Nat) (x y : El) (u : Value) (i : Nat) : Prop where
  le : i ≤ x.a.length
  later : Later w w'
  bx : Blk w' w.heap.size (elC x).toArray 35
  by_ : Blk w' (w.heap.size + 1) (elC y).toArray 35
  bz : Blk w' (w.heap.size + 2) #[.int .i64 0, .slice none 0 0, .int .i64 0, .slice none 0 0] 35
  cur : ∃ lst av, Blk w' b (elC ⟨x.t, x.d, x.n + y.n, lst, u, av⟩).toArray 35 ∧ EO w' w.heap.size ⟨x.t, x.d, x.n + y.n, lst, u, av⟩ ∧ jaggs (x.a.take i) (y.a.take i) = some lst
theorem JS.step {w w1 w2 : World} {b i : Nat} {x y : El} {u : Value} (h : JS w w1 b x y u i) (hl : Later w1 w2) : JS w w2 b x y u i := by
  obtain ⟨h0, h1, h2, h3, h4, lst, av, h5, h6, h7⟩ := h
  have c := Chg.of_later (ks := []) hl
  exact ⟨h0, h1.trans hl, h2.chg c (by simp), h3.chg c (by simp), h4.chg c (by simp), lst, av, h5.chg c (by simp), h6.later hl, h7⟩
set_option maxHeartbeats 1000000 in
theorem rjoin_c (x y : El) (w : World) (hx : EIs w x) (hy : EIs w y) (rx : Rr x) (ry : Rr y) (hl : x.a.length = y.a.length) :
    FnC Try.prog 35 #[elV x, elV y] w fun r w' => ∃ z e, r = .tuple #[elV z, .int .i64 e] ∧ JR x y z e ∧ EO w' w.heap.size z ∧ Later w w' := by
  obtain ⟨n1, n2, ra, rd, rl⟩ := rx
  obtain ⟨m1, m2, sa, sd, sl⟩ := ry
  unfold elV
  refine enter35 _ _ ?_
  unfold B35
  have eca : (Value.agg #[.int .i64 x.t, x.dv, .int .i64 x.n, x.av]).cells = #[.int .i64 x.t, x.dv, .int .i64 x.n, x.av] := rfl
  have ecb : (Value.agg #[.int .i64 y.t, y.dv, .int .i64 y.n, y.av]).cells = #[.int .i64 y.t, y.dv, .int .i64 y.n, y.av] := rfl
  have s1 : (w.alloc (.cells #[.int .i64 x.t, x.dv, .int .i64 x.n, x.av] 35)).heap.size = w.heap.size + 1 := World.size_alloc w _
  obtain ⟨l2, F, hs⟩ := boxes w x y hx hy
  repeat' (first | (simp (disch := omega) only [push_cast, ↓reduceIte, zA, zG, zB, zH, zI, zC, zJ, zK, zL, zD, zE, zF, zM, zN, zO, zP, zQ, reduceCtorEq, not_true_eq_false, not_false_eq_true, eca, ecb, s1, hs]) | (first | refine vIfE_of ?_ ?_ | refine vIfD_of ?_ ?_ | refine vIfQ_of ?_ ?_ | refine vIfV_of ?_ ?_) <;> intro _ | refine And.intro (by omega) ?_ | fail)
  generalize ((w.alloc (.cells #[.int .i64 x.t, x.dv, .int .i64 x.n, x.av] 35)).alloc (.cells #[.int .i64 y.t, y.dv, .int .i64 y.n, y.av] 35)) = w2 at *
  have l3 := later_alloc w2 (.cells #[.int .i64 0, .slice none 0 0, .int .i64 0, .slice none 0 0] 35)
  have B3 := Blk.new w2 #[.int .i64 0, .slice none 0 0, .int .i64 0, .slice none 0 0] 35
  rw [hs] at B3
  generalize w2.alloc (.cells #[.int .i64 0, .slice none 0 0, .int .i64 0, .slice none 0 0] 35) = w3 at *
  have G := fun w' (hl : Later w3 w') => F w' (l3.trans hl)
  have l03 := l2.trans l3
  clear F eca ecb s1
  obtain ⟨hx3, hy3, _, _, a0, a1, a2, a3, a4, b0, b1, b2, b3, b4⟩ := G w3 (Later.refl _)
  obtain ⟨ox, cx, hax, gx1, gx2⟩ := RecS.slice hx.2
  obtain ⟨oy, cy, hay, gy1, gy2⟩ := RecS.slice hy.2
  have hbig : w.heap.size + 2 < w3.heap.size := B3.lt
  repeat' (first | (simp (disch := omega) only [push_cast, ↓reduceIte, zA, zG, zB, zH, zI, zC, zJ, zK, zL, zD, zE, zF, zM, zN, zO, zP, zQ, reduceCtorEq, not_true_eq_false, not_false_eq_true, a4, b4]) | (first | refine vIfE_of ?_ ?_ | refine vIfD_of ?_ ?_ | refine vIfQ_of ?_ ?_ | refine vIfV_of ?_ ?_) <;> intro _ | refine And.intro (by omega) ?_ | refine drawn_q ?_ | fail)
  refine (rcompare_c x y w3 hx3 hy3).mono ?_
  rintro _ w4 ⟨rfl, l4⟩
  obtain ⟨hx4, hy4, _, _, a0, a1, a2, a3, a4, b0, b1, b2, b3, b4⟩ := G w4 l4
  rw [hax] at a3
  rw [hay] at b3
  by_cases hc : ecmp x y = 0
  case neg =>
    have hj : JR x y z0 131 := .inl ⟨hc, rfl, rfl⟩
    repeat' (first | (simp (disch := omega) only [push_cast, ↓reduceIte, zA, zG, zB, zH, zI, zC, zJ, zK, zL, zD, zE, zF, zM, zN, zO, zP, zQ, reduceCtorEq, not_true_eq_false, not_false_eq_true, a2, a3, b2, b3, addr_add_eq, Nat.zero_add]) | (first | refine vIfE_of ?_ ?_ | refine vIfD_of ?_ ?_ | refine vIfQ_of ?_ ?_ | refine vIfV_of ?_ ?_) <;> intro _ | refine And.intro (by omega) ?_ | refine drawn_q ?_ | fail)
    refine vStore_blk (l := [.int .i64 0, .slice none 0 0, .int .i64 0, .slice none 0 0]) (xs := elC z0) (B3.chg (Chg.of_later (ks := []) (l4)) (by simp)) rfl rfl (elC_one (EO.zero w4 0).is) ?_
    intro w9 B9 c9
    repeat' (first | (simp (disch := omega) only [push_cast, ↓reduceIte, zA, zG, zB, zH, zI, zC, zJ, zK, zL, zD, zE, zF, zM, zN, zO, zP, zQ, reduceCtorEq, not_true_eq_false, not_false_eq_true]) | (first | refine vIfE_of ?_ ?_ | refine vIfD_of ?_ ?_ | refine vIfQ_of ?_ ?_ | refine vIfV_of ?_ ?_) <;> intro _ | refine And.intro (by omega) ?_ | refine drawn_q ?_ | fail)
    refine resK_cells (s := 4) (by simp (disch := omega) only [push_cast, ↓reduceIte, zA, zG, zB, zH, zI, zC, zJ, zK, zL, zD, zE, zF, zM, zN, zO, zP, zQ, reduceCtorEq, not_true_eq_false, not_false_eq_true]) (by rw [Try.underlying35]; exact sz35) (Blk.cellsAt (l := elC z0) B9) ?_
    repeat' (first | (simp (disch := omega) only [push_cast, ↓reduceIte, zA, zG, zB, zH, zI, zC, zJ, zK, zL, zD, zE, zF, zM, zN, zO, zP, zQ, reduceCtorEq, not_true_eq_false, not_false_eq_true]) | (first | refine vIfE_of ?_ ?_ | refine vIfD_of ?_ ?_ | refine vIfQ_of ?_ ?_ | refine vIfV_of ?_ ?_) <;> intro _ | refine And.intro (by omega) ?_ | refine drawn_q ?_ | fail)
    exact ⟨z0, 131, rfl, hj, EO.zero _ _, Chg.later (l03.trans (l4)) c9 (by intro j hj; rw [List.mem_singleton.1 hj]; omega)⟩
  rw [hc]
  by_cases hn : 1048576 < x.n + y.n
  · have hj : JR x y z0 121 := .inr (.inl ⟨hc, by rw [jn_abs, if_pos hn], rfl, rfl⟩)
    repeat' (first | (simp (disch := omega) only [push_cast, ↓reduceIte, zA, zG, zB, zH, zI, zC, zJ, zK, zL, zD, zE, zF, zM, zN, zO, zP, zQ, reduceCtorEq, not_true_eq_false, not_false_eq_true, a2, a3, b2, b3, addr_add_eq, Nat.zero_add]) | (first | refine vIfE_of ?_ ?_ | refine vIfD_of ?_ ?_ | refine vIfQ_of ?_ ?_ | refine vIfV_of ?_ ?_) <;> intro _ | refine And.intro (by omega) ?_ | refine drawn_q ?_ | fail)
    refine vStore_blk (l := [.int .i64 0, .slice none 0 0, .int .i64 0, .slice none 0 0]) (xs := elC z0) (B3.chg (Chg.of_later (ks := []) (l4)) (by simp)) rfl rfl (elC_one (EO.zero w4 0).is) ?_
    intro w9 B9 c9
    repeat' (first | (simp (disch := omega) only [push_cast, ↓reduceIte, zA, zG, zB, zH, zI, zC, zJ, zK, zL, zD, zE, zF, zM, zN, zO, zP, zQ, reduceCtorEq, not_true_eq_false, not_false_eq_true]) | (first | refine vIfE_of ?_ ?_ | refine vIfD_of ?_ ?_ | refine vIfQ_of ?_ ?_ | refine vIfV_of ?_ ?_) <;> intro _ | refine And.intro (by omega) ?_ | refine drawn_q ?_ | fail)
    refine resK_cells (s := 4) (by simp (disch := omega) only [push_cast, ↓reduceIte, zA, zG, zB, zH, zI, zC, zJ, zK, zL, zD, zE, zF, zM, zN, zO, zP, zQ, reduceCtorEq, not_true_eq_false, not_false_eq_true]) (by rw [Try.underlying35]; exact sz35) (Blk.cellsAt (l := elC z0) B9) ?_
    repeat' (first | (simp (disch := omega) only [push_cast, ↓reduceIte, zA, zG, zB, zH, zI, zC, zJ, zK, zL, zD, zE, zF, zM, zN, zO, zP, zQ, reduceCtorEq, not_true_eq_false, not_false_eq_true]) | (first | refine vIfE_of ?_ ?_ | refine vIfD_of ?_ ?_ | refine vIfQ_of ?_ ?_ | refine vIfV_of ?_ ?_) <;> intro _ | refine And.intro (by omega) ?_ | refine drawn_q ?_ | fail)
    exact ⟨z0, 121, rfl, hj, EO.zero _ _, Chg.later (l03.trans (l4)) c9 (by intro j hj; rw [List.mem_singleton.1 hj]; omega)⟩
  repeat' (first | (simp (disch := omega) only [push_cast, ↓reduceIte, zA, zG, zB, zH, zI, zC, zJ, zK, zL, zD, zE, zF, zM, zN, zO, zP, zQ, reduceCtorEq, not_true_eq_false, not_false_eq_true, a2, a3, b2, b3, addr_add_eq, Nat.zero_add]) | (first | refine vIfE_of ?_ ?_ | refine vIfD_of ?_ ?_ | refine vIfQ_of ?_ ?_ | refine vIfV_of ?_ ?_) <;> intro _ | refine And.intro (by omega) ?_ | fail)
  refine drawn_k 12 ?_
  repeat' (first | (simp (disch := omega) only [push_cast, ↓reduceIte, zA, zG, zB, zH, zI, zC, zJ, zK, zL, zD, zE, zF, zM, zN, zO, zP, zQ, reduceCtorEq, not_true_eq_false, not_false_eq_true, a0, a1, a2, b2, addr_add_eq, Nat.zero_add]) | (first | refine vIfE_of ?_ ?_ | refine vIfD_of ?_ ?_ | refine vIfQ_of ?_ ?_ | refine vIfV_of ?_ ?_) <;> intro _ | refine And.intro (by omega) ?_ | fail)
  have hsz4 : w.heap.size ≤ w4.heap.size := (l03.trans l4).size
  refine NFn.of hb52 (fun v w' => OwnS w' w.heap.size v x.d) (stb_ownS _ _ _) (fun w' hl => (cloneS_c _ _ w' (hx4.later hl).1 (by omega)).mono fun v w'' hv => ⟨own_base hv.1 (Nat.le_trans hsz4 hl.size), hv.2⟩) ?_
  repeat' (first | (simp (disch := omega) only [push_cast, ↓reduceIte, zA, zG, zB, zH, zI, zC, zJ, zK, zL, zD, zE, zF, zM, zN, zO, zP, zQ, reduceCtorEq, not_true_eq_false, not_false_eq_true, a0, a1, a2, b2, addr_add_eq, Nat.zero_add]) | (first | refine vIfE_of ?_ ?_ | refine vIfD_of ?_ ?_ | refine vIfQ_of ?_ ?_ | refine vIfV_of ?_ ?_) <;> intro _ | refine And.intro (by omega) ?_ | fail)
  refine nR_bld (RowB w.heap.size x.t (x.n + y.n) x.d) (stb_rowB _ _ _ _ _) (fun σ' w' hl hp => ?_) ?_
  · obtain ⟨hp35, hp38, hp43, _⟩ := hp
    have h35 : σ' 35 = .int .i64 x.t := hp35
    have h38 : OwnS w' w.heap.size (σ' 38) x.d := hp38
    have h43 : σ' 43 = .int .i64 (x.n + y.n) := hp43
    obtain ⟨o3, c3, hv, _⟩ := Sl.openM (Sl.of_own h38 : Sl w' (σ' 38) (x.d.map Value.string))
    rw [hv] at h38
    repeat' (first | (simp (disch := omega) only [push_cast, ↓reduceIte, zA, zG, zB, zH, zI, zC, zJ, zK, zL, zD, zE, zF, zM, zN, zO, zP, zQ, reduceCtorEq, not_true_eq_false, not_false_eq_true, h35, hv, h43]) | (first | refine vIfE_of ?_ ?_ | refine vIfD_of ?_ ?_ | refine vIfQ_of ?_ ?_ | refine vIfV_of ?_ ?_) <;> intro _ | refine And.intro (by omega) ?_ | fail)
    exact ⟨Later.refl _, _, rfl, h38⟩
  repeat' (first | (simp (disch := omega) only [push_cast, ↓reduceIte, zA, zG, zB, zH, zI, zC, zJ, zK, zL, zD, zE, zF, zM, zN, zO, zP, zQ, reduceCtorEq, not_true_eq_false, not_false_eq_true]) | (first | refine vIfE_of ?_ ?_ | refine vIfD_of ?_ ?_ | refine vIfQ_of ?_ ?_ | refine vIfV_of ?_ ?_) <;> intro _ | refine And.intro (by omega) ?_ | fail)
  refine nA_of _ (PtV w4 35 #[.int .i64 0, .slice none 0 0, .int .i64 0, .slice none 0 0]) (stb_pt _ _ _ _) (fun w' hl => ?_) ?_
  · repeat' (first | (simp (disch := omega) only [push_cast, ↓reduceIte, zA, zG, zB, zH, zI, zC, zJ, zK, zL, zD, zE, zF, zM, zN, zO, zP, zQ, reduceCtorEq, not_true_eq_false, not_false_eq_true]) | (first | refine vIfE_of ?_ ?_ | refine vIfD_of ?_ ?_ | refine vIfQ_of ?_ ?_ | refine vIfV_of ?_ ?_) <;> intro _ | refine And.intro (by omega) ?_ | fail)
    exact ⟨later_alloc _ _, w'.heap.size, rfl, hl.size, Blk.new _ _ _⟩
  repeat' (first | (simp (disch := omega) only [push_cast, ↓reduceIte, zA, zG, zB, zH, zI, zC, zJ, zK, zL, zD, zE, zF, zM, zN, zO, zP, zQ, reduceCtorEq, not_true_eq_false, not_false_eq_true]) | (first | refine vIfE_of ?_ ?_ | refine vIfD_of ?_ ?_ | refine vIfQ_of ?_ ?_ | refine vIfV_of ?_ ?_) <;> intro _ | refine And.intro (by omega) ?_ | fail)
  rintro w5 l5 _ ⟨b, rfl, hb4, Bb⟩ _ ⟨u, rfl, hu⟩ _ _
  obtain ⟨ou, cu, rfl, _⟩ := Sl.openM (Sl.of_own hu : Sl w5 u (x.d.map Value.string))
  have hE0 : EO w5 w.heap.size ⟨x.t, x.d, x.n + y.n, [], .slice ou x.d.length cu, .slice none 0 0⟩ := ⟨hu, OwnR.nil _ _ _⟩
  generalize hU : Value.slice ou x.d.length cu = U at *
  refine vStore_blk (l := [.int .i64 0, .slice none 0 0, .int .i64 0, .slice none 0 0]) (xs := elC ⟨x.t, x.d, x.n + y.n, [], U, .slice none 0 0⟩) Bb rfl rfl (elC_one hE0.is) ?_
  intro w6 Bb6 c6
  have l35 := l4.trans l5
  have hb2 : w.heap.size + 2 < b := Nat.lt_of_lt_of_le hbig (Nat.le_trans l4.size hb4)
  have B35 := B3.chg (Chg.of_later (ks := []) l35) (by simp)
  obtain ⟨_, _, bx5, by5, _⟩ := G w5 l35
  have J0 : JS w w6 b x y U 0 := ⟨by omega, Chg.later (l03.trans l35) c6 (by intro j hj; rw [List.mem_singleton.1 hj]; omega), bx5.chg c6 (by simp; omega), by5.chg c6 (by simp; omega), B35.chg c6 (by simp; omega), [], .slice none 0 0, Bb6, hE0.chg Bb c6, by simp [jaggs]⟩
  clear hE0 Bb6 c6 Bb B35 bx5 by5 G hx4 hy4 a0 a1 a2 a3 a4 b0 b1 b2 b3 b4 hx3 hy3 B3 l2 l3 l03 l4 l5 l35 hu hs
  have f3 : w6.cell? ⟨w.heap.size, 3, none⟩ = some (.slice ox x.a.length cx) := by have := J0.bx.cell 3; rw [← hax]; exact this
  repeat' (first | (simp (disch := omega) only [push_cast, ↓reduceIte, zA, zG, zB, zH, zI, zC, zJ, zK, zL, zD, zE, zF, zM, zN, zO, zP, zQ, reduceCtorEq, not_true_eq_false, not_false_eq_true, f3, addr_add_eq, Nat.zero_add]) | (first | refine vIfE_of ?_ ?_ | refine vIfD_of ?_ ?_ | refine vIfQ_of ?_ ?_ | refine vIfV_of ?_ ?_) <;> intro _ | refine And.intro (by omega) ?_ | refine drawn_q ?_ | fail)
  clear f3
  have fin : ∀ w' z e, JR x y z e → EO w' w.heap.size z → Later w w' → ∃ z e', Value.tuple #[elV z, .int .i64 e] = .tuple #[elV z, .int .i64 e'] ∧ True := fun w' z e _ _ _ => ⟨z, e, rfl, trivial⟩
  refine vc_loop W35_0 (fun i : Nat => [(48, .int .i64 (i : Int))]) (fun i w' => JS w w' b x y U i) (fun i => x.a.length - i) 0 (by decide) ?_ ?_ ?_
  · simp (disch := omega) only [push_cast, ↓reduceIte, zA, zG, zB, zH, zI, zC, zJ, zK, zL, zD, zE, zF, zM, zN, zO, zP, zQ, reduceCtorEq, not_true_eq_false, not_false_eq_true]
  · exact J0
  clear J0 fin
  rintro i uu w7 J
  have hle := J.le
  have hx7 := (hx.later J.later).2
  have hy7 := (hy.later J.later).2
  rw [hax] at hx7
  rw [hay] at hy7
  by_cases hlt : i < x.a.length
  · have hlt2 : i < y.a.length := by omega
    obtain ⟨lst, av, Bc, hE, hjl⟩ := J.cur
    have hstep := jaggs_step hl hlt hlt2 hjl
    have hAa := ra _ (List.getElem_mem hlt)
    have hAc := sa _ (List.getElem_mem hlt2)
    obtain ⟨aa, rfl, f1⟩ := RecS.at agC_len hx7 hlt
    obtain ⟨bb, rfl, f2⟩ := RecS.at agC_len hy7 hlt2
    have g3 : w7.cell? ⟨w.heap.size + 1, 3, none⟩ = some (.slice (some bb) y.a.length cy) := by have := J.by_.cell 3; rw [← hay]; exact this
    generalize x.a[i] = a at *
    generalize y.a[i] = c at *
    repeat' (first | (simp (disch := omega) only [push_cast, ↓reduceIte, zA, zG, zB, zH, zI, zC, zJ, zK, zL, zD, zE, zF, zM, zN, zO, zP, zQ, reduceCtorEq, not_true_eq_false, not_false_eq_true, f1]) | (first | refine vIfE_of ?_ ?_ | refine vIfD_of ?_ ?_ | refine vIfQ_of ?_ ?_ | refine vIfV_of ?_ ?_) <;> intro _ | refine And.intro (by omega) ?_ | refine drawn_q ?_ | fail)
    refine vStore_new rfl rfl (by simpa using agC_one a) ?_
    have l8 := later_alloc w7 (.cells (agC a).toArray 64)
    have B8 := Blk.new w7 (agC a).toArray 64
    generalize w7.alloc (.cells (agC a).toArray 64) = w8 at *
    generalize w7.heap.size = k8 at *
    have f8 : cellsAt w8 ⟨k8, 0, none⟩ 3 = some (agC a) := Blk.cellsAt (l := agC a) B8
    have g38 := l8.cell g3
    have f28 := cellsAt_later l8 3 f2
    have J8 := J.step l8
    repeat' (first | (simp (disch := omega) only [push_cast, ↓reduceIte, zA, zG, zB, zH, zI, zC, zJ, zK, zL, zD, zE, zF, zM, zN, zO, zP, zQ, reduceCtorEq, not_true_eq_false, not_false_eq_true]) | (first | refine vIfE_of ?_ ?_ | refine vIfD_of ?_ ?_ | refine vIfQ_of ?_ ?_ | refine vIfV_of ?_ ?_) <;> intro _ | refine And.intro (by omega) ?_ | fail)
    refine drawnS_k 11 ?_
    repeat' (first | (simp (disch := omega) only [push_cast, ↓reduceIte, zA, zG, zB, zH, zI, zC, zJ, zK, zL, zD, zE, zF, zM, zN, zO, zP, zQ, reduceCtorEq, not_true_eq_false, not_false_eq_true, f8, g38, f28, addr_add_eq, Nat.zero_add]) | (first | refine vIfE_of ?_ ?_ | refine vIfD_of ?_ ?_ | refine vIfQ_of ?_ ?_ | refine vIfV_of ?_ ?_) <;> intro _ | refine And.intro (by omega) ?_ | fail)
    refine NFn.fix hb74 (v := jnV a c) (fun w' _ => ajoin_c a c w' hAa hAc) ?_
    by_cases hf : Fi (a.1 + c.1)
    · have jt : jnV a c = .tuple #[agV (ajn a c), .int .i64 0] := if_pos hf
      rw [jt]
      repeat' (first | (simp (disch := omega) only [push_cast, ↓reduceIte, zA, zG, zB, zH, zI, zC, zJ, zK, zL, zD, zE, zF, zM, zN, zO, zP, zQ, reduceCtorEq, not_true_eq_false, not_false_eq_true]) | (first | refine vIfE_of ?_ ?_ | refine vIfD_of ?_ ?_ | refine vIfQ_of ?_ ?_ | refine vIfV_of ?_ ?_) <;> intro _ | refine And.intro (by omega) ?_ | fail)
      refine nA_of _ (PtV w8 64 #[.int .i64 0, .int .i64 0, .int .i64 0]) (stb_pt _ _ _ _) (fun w' hl => ?_) ?_
      · repeat' (first | (simp (disch := omega) only [push_cast, ↓reduceIte, zA, zG, zB, zH, zI, zC, zJ, zK, zL, zD, zE, zF, zM, zN, zO, zP, zQ, reduceCtorEq, not_true_eq_false, not_false_eq_true]) | (first | refine vIfE_of ?_ ?_ | refine vIfD_of ?_ ?_ | refine vIfQ_of ?_ ?_ | refine vIfV_of ?_ ?_) <;> intro _ | refine And.intro (by omega) ?_ | fail)
        exact ⟨later_alloc _ _, w'.heap.size, rfl, hl.size, Blk.new _ _ _⟩
      repeat' (first | (simp (disch := omega) only [push_cast, ↓reduceIte, zA, zG, zB, zH, zI, zC, zJ, zK, zL, zD, zE, zF, zM, zN, zO, zP, zQ, reduceCtorEq, not_true_eq_false, not_false_eq_true]) | (first | refine vIfE_of ?_ ?_ | refine vIfD_of ?_ ?_ | refine vIfQ_of ?_ ?_ | refine vIfV_of ?_ ?_) <;> intro _ | refine And.intro (by omega) ?_ | fail)
      refine ⟨rfl, fun w9 l9 => ?_⟩
      rintro _ ⟨b9, rfl, hb9, B9⟩
      refine ⟨by simp (disch := omega) only [push_cast, ↓reduceIte, zA, zG, zB, zH, zI, zC, zJ, zK, zL, zD, zE, zF, zM, zN, zO, zP, zQ, reduceCtorEq, not_true_eq_false, not_false_eq_true, implies_true, and_self], ?_⟩
      repeat' (first | (simp (disch := omega) only [push_cast, ↓reduceIte, zA, zG, zB, zH, zI, zC, zJ, zK, zL, zD, zE, zF, zM, zN, zO, zP, zQ, reduceCtorEq, not_true_eq_false, not_false_eq_true]) | (first | refine vIfE_of ?_ ?_ | refine vIfD_of ?_ ?_ | refine vIfQ_of ?_ ?_ | refine vIfV_of ?_ ?_) <;> intro _ | refine And.intro (by omega) ?_ | fail)
      refine vStore_blk (l := [.int .i64 0, .int .i64 0, .int .i64 0]) (xs := agC (ajn a c)) B9 rfl rfl (agC_one _) ?_
      intro w10 B10 c10
      have l810 := Chg.later l9 c10 (by intro j hj; rw [List.mem_singleton.1 hj]; exact hb9)
      have J10 := J8.step l810
      have f10 : cellsAt w10 ⟨b9, 0, none⟩ 3 = some (agC (ajn a c)) := Blk.cellsAt (l := agC (ajn a c)) B10
      clear c10 B9 l9 hb9 f8 g38 f28 B8 l8 J8
      obtain ⟨_, hla, hbx, hby, hbz, lst', av', Bc', hE', hjl'⟩ := J10
      have hll : lst' = lst := by rw [hjl] at hjl'; exact (Option.some.inj hjl').symm
      subst hll
      obtain ⟨oa, ca, hav, _⟩ := RecS.slice (OwnR.s hE'.2)
      have hav : av' = .slice oa lst'.length ca := hav
      subst hav
      have hll2 := jaggs_len _ _ _ (by simp; omega) hjl'
      rw [List.length_take] at hll2
      have f11 : w10.cell? ⟨b, 3, none⟩ = some (.slice oa lst'.length ca) := Bc'.cell 3
      have f10' : cellsAt w10 ⟨b9, 0, none⟩ 3 = some [.int .i64 (ajn a c).1, .int .i64 (ajn a c).2.1, .int .i64 (ajn a c).2.2] := f10
      repeat' (first | (simp (disch := omega) only [push_cast, ↓reduceIte, zA, zG, zB, zH, zI, zC, zJ, zK, zL, zD, zE, zF, zM, zN, zO, zP, zQ, reduceCtorEq, not_true_eq_false, not_false_eq_true, f10', f11, addr_add_eq, Nat.zero_add]) | (first | refine vIfE_of ?_ ?_ | refine vIfD_of ?_ ?_ | refine vIfQ_of ?_ ?_ | refine vIfV_of ?_ ?_) <;> intro _ | refine And.intro (by omega) ?_ | refine drawn_q ?_ | fail)
      have la := later_alloc w10 (.cells #[.int .i64 (ajn a c).1, .int .i64 (ajn a c).2.1, .int .i64 (ajn a c).2.2] 64)
      have Bl := Blk.new w10 #[.int .i64 (ajn a c).1, .int .i64 (ajn a c).2.1, .int .i64 (ajn a c).2.2] 64
      have hEa := hE'.later la
      have hOA : OwnA (w10.alloc (.cells #[.int .i64 (ajn a c).1, .int .i64 (ajn a c).2.1, .int .i64 (ajn a c).2.2] 64)) w.heap.size (.slice oa lst'.length ca) lst' := hEa.2
      refine vAppend_rs agC_len agC_one Try.underlying33 ti64 rfl (by decide) hOA (RecS.lit1 (agC_len _) Bl) (by simp; omega) (by omega) (Nat.le_trans hla.size la.size) ?_
      intro v' w12 ho hg _
      have cl := Chg.of_later (ks := []) la
      have q1 : Blk w12 _ _ 35 := grown_obj hOA hg (hbx.chg cl (by simp)) (fun cs h => by simp at h)
      have q2 : Blk w12 _ _ 35 := grown_obj hOA hg (hby.chg cl (by simp)) (fun cs h => by simp at h)
      have q3 : Blk w12 _ _ 35 := grown_obj hOA hg (hbz.chg cl (by simp)) (fun cs h => by simp at h)
      have q4 : Blk w12 b _ 35 := grown_obj hOA hg (Bc'.chg cl (by simp)) (fun cs h => by simp at h)
      have q5 := (hla.trans la).appended hOA (Nat.le_refl _) hg
      have q6 : OwnS w12 w.heap.size U x.d := ownS_grown hEa.1 hOA hg
      obtain ⟨o2, c2, hv2, _⟩ := RecS.slice (OwnR.s ho)
      subst hv2
      have hfz := q4.frozen 3
      have hce : ∃ y, w12.cell? ⟨b, 3, none⟩ = some y := ⟨_, q4.cell 3⟩
      have gc := chg_setCell (i := 3) w12 (ks := [b]) (k := b) (by simp) (.slice o2 (lst' ++ [ajn a c]).length c2)
      have z5 := q4.set 3 (.slice o2 (lst' ++ [ajn a c]).length c2)
      repeat' (first | (simp (disch := omega) only [push_cast, ↓reduceIte, zA, zG, zB, zH, zI, zC, zJ, zK, zL, zD, zE, zF, zM, zN, zO, zP, zQ, reduceCtorEq, not_true_eq_false, not_false_eq_true, hfz, hce, addr_add_eq, Nat.zero_add]) | (first | refine vIfE_of ?_ ?_ | refine vIfD_of ?_ ?_ | refine vIfQ_of ?_ ?_ | refine vIfV_of ?_ ?_) <;> intro _ | refine And.intro (by omega) ?_ | refine drawn_q ?_ | fail)
      have hJ : JS w (w12.setCell ⟨b, 3, none⟩ (.slice o2 (lst' ++ [ajn a c]).length c2)) b x y U (i + 1) :=
        ⟨by omega, gc.later q5 (by intro j hj; rw [List.mem_singleton.1 hj]; omega), q1.chg gc (by simp; omega), q2.chg gc (by simp; omega), q3.chg gc (by simp; omega), lst' ++ [ajn a c], _, z5, ⟨own_chg_ty q6 q4 (by decide) gc, own_chg_ty ho q4 (by decide) gc⟩, hstep.1 hf⟩
      exact ⟨rfl, i + 1, by simp (disch := omega) only [push_cast, ↓reduceIte, zA, zG, zB, zH, zI, zC, zJ, zK, zL, zD, zE, zF, zM, zN, zO, zP, zQ, reduceCtorEq, not_true_eq_false, not_false_eq_true], hJ, by dsimp only; omega⟩
    · have jt : jnV a c = .tuple #[agV (0, 0, 0), .int .i64 121] := if_neg hf
      have hj : JR x y z0 121 := .inr (.inl ⟨hc, by rw [jn_abs, if_neg hn, hstep.2 hf]; rfl, rfl, rfl⟩)
      rw [jt]
      repeat' (first | (simp (disch := omega) only [push_cast, ↓reduceIte, zA, zG, zB, zH, zI, zC, zJ, zK, zL, zD, zE, zF, zM, zN, zO, zP, zQ, reduceCtorEq, not_true_eq_false, not_false_eq_true]) | (first | refine vIfE_of ?_ ?_ | refine vIfD_of ?_ ?_ | refine vIfQ_of ?_ ?_ | refine vIfV_of ?_ ?_) <;> intro _ | refine And.intro (by omega) ?_ | fail)
      refine nA_of _ (PtV w8 64 #[.int .i64 0, .int .i64 0, .int .i64 0]) (stb_pt _ _ _ _) (fun w' hl => ?_) ?_
      · repeat' (first | (simp (disch := omega) only [push_cast, ↓reduceIte, zA, zG, zB, zH, zI, zC, zJ, zK, zL, zD, zE, zF, zM, zN, zO, zP, zQ, reduceCtorEq, not_true_eq_false, not_false_eq_true]) | (first | refine vIfE_of ?_ ?_ | refine vIfD_of ?_ ?_ | refine vIfQ_of ?_ ?_ | refine vIfV_of ?_ ?_) <;> intro _ | refine And.intro (by omega) ?_ | fail)
        exact ⟨later_alloc _ _, w'.heap.size, rfl, hl.size, Blk.new _ _ _⟩
      repeat' (first | (simp (disch := omega) only [push_cast, ↓reduceIte, zA, zG, zB, zH, zI, zC, zJ, zK, zL, zD, zE, zF, zM, zN, zO, zP, zQ, reduceCtorEq, not_true_eq_false, not_false_eq_true]) | (first | refine vIfE_of ?_ ?_ | refine vIfD_of ?_ ?_ | refine vIfQ_of ?_ ?_ | refine vIfV_of ?_ ?_) <;> intro _ | refine And.intro (by omega) ?_ | fail)
      refine ⟨rfl, fun w9 l9 => ?_⟩
      rintro _ ⟨b9, rfl, hb9, B9⟩
      refine ⟨by simp (disch := omega) only [push_cast, ↓reduceIte, zA, zG, zB, zH, zI, zC, zJ, zK, zL, zD, zE, zF, zM, zN, zO, zP, zQ, reduceCtorEq, not_true_eq_false, not_false_eq_true, implies_true, and_self], ?_⟩
      repeat' (first | (simp (disch := omega) only [push_cast, ↓reduceIte, zA, zG, zB, zH, zI, zC, zJ, zK, zL, zD, zE, zF, zM, zN, zO, zP, zQ, reduceCtorEq, not_true_eq_false, not_false_eq_true]) | (first | refine vIfE_of ?_ ?_ | refine vIfD_of ?_ ?_ | refine vIfQ_of ?_ ?_ | refine vIfV_of ?_ ?_) <;> intro _ | refine And.intro (by omega) ?_ | fail)
      refine vStore_blk (l := [.int .i64 0, .int .i64 0, .int .i64 0]) (xs := agC (0, 0, 0)) B9 rfl rfl (agC_one _) ?_
      intro w10 B10 c10
      have l810 := Chg.later l9 c10 (by intro j hj; rw [List.mem_singleton.1 hj]; exact hb9)
      have J10 := J8.step l810
      have f10 : cellsAt w10 ⟨b9, 0, none⟩ 3 = some (agC (0, 0, 0)) := Blk.cellsAt (l := agC (0, 0, 0)) B10
      clear c10 B9 l9 hb9 f8 g38 f28 B8 l8 J8
      repeat' (first | (simp (disch := omega) only [push_cast, ↓reduceIte, zA, zG, zB, zH, zI, zC, zJ, zK, zL, zD, zE, zF, zM, zN, zO, zP, zQ, reduceCtorEq, not_true_eq_false, not_false_eq_true]) | (first | refine vIfE_of ?_ ?_ | refine vIfD_of ?_ ?_ | refine vIfQ_of ?_ ?_ | refine vIfV_of ?_ ?_) <;> intro _ | refine And.intro (by omega) ?_ | refine drawn_q ?_ | fail)
      refine vStore_blk (l := [.int .i64 0, .slice none 0 0, .int .i64 0, .slice none 0 0]) (xs := elC z0) J10.bz rfl rfl (elC_one (EO.zero w10 0).is) ?_
      intro w11 B11 c11
      repeat' (first | (simp (disch := omega) only [push_cast, ↓reduceIte, zA, zG, zB, zH, zI, zC, zJ, zK, zL, zD, zE, zF, zM, zN, zO, zP, zQ, reduceCtorEq, not_true_eq_false, not_false_eq_true]) | (first | refine vIfE_of ?_ ?_ | refine vIfD_of ?_ ?_ | refine vIfQ_of ?_ ?_ | refine vIfV_of ?_ ?_) <;> intro _ | refine And.intro (by omega) ?_ | refine drawn_q ?_ | fail)
      refine resK_cells (s := 4) (by simp (disch := omega) only [push_cast, ↓reduceIte, zA, zG, zB, zH, zI, zC, zJ, zK, zL, zD, zE, zF, zM, zN, zO, zP, zQ, reduceCtorEq, not_true_eq_false, not_false_eq_true]) (by rw [Try.underlying35]; exact sz35) (Blk.cellsAt (l := elC z0) B11) ?_
      repeat' (first | (simp (disch := omega) only [push_cast, ↓reduceIte, zA, zG, zB, zH, zI, zC, zJ, zK, zL, zD, zE, zF, zM, zN, zO, zP, zQ, reduceCtorEq, not_true_eq_false, not_false_eq_true]) | (first | refine vIfE_of ?_ ?_ | refine vIfD_of ?_ ?_ | refine vIfQ_of ?_ ?_ | refine vIfV_of ?_ ?_) <;> intro _ | refine And.intro (by omega) ?_ | refine drawn_q ?_ | fail)
      exact ⟨z0, 121, rfl, hj, EO.zero _ _, Chg.later J10.later c11 (by intro j hj; rw [List.mem_singleton.1 hj]; omega)⟩
  · have hi : i = x.a.length := by omega
    subst hi
    obtain ⟨lst, av, Bc, hE, hjl⟩ := J.cur
    rw [List.take_length, hl, List.take_length] at hjl
    have hj : JR x y ⟨x.t, x.d, x.n + y.n, lst, U, av⟩ 0 := .inr (.inr ⟨hc, rfl, by rw [jn_abs, if_neg hn, hjl]; rfl⟩)
    have f4 : cellsAt w7 ⟨b, 0, none⟩ 4 = some (elC ⟨x.t, x.d, x.n + y.n, lst, U, av⟩) := Blk.cellsAt (l := elC ⟨x.t, x.d, x.n + y.n, lst, U, av⟩) Bc
    repeat' (first | (simp (disch := omega) only [push_cast, ↓reduceIte, zA, zG, zB, zH, zI, zC, zJ, zK, zL, zD, zE, zF, zM, zN, zO, zP, zQ, reduceCtorEq, not_true_eq_false, not_false_eq_true, f4]) | (first | refine vIfE_of ?_ ?_ | refine vIfD_of ?_ ?_ | refine vIfQ_of ?_ ?_ | refine vIfV_of ?_ ?_) <;> intro _ | refine And.intro (by omega) ?_ | refine drawn_q ?_ | fail)
    refine vStore_blk (l := [.int .i64 0, .slice none 0 0, .int .i64 0, .slice none 0 0]) (xs := elC ⟨x.t, x.d, x.n + y.n, lst, U, av⟩) J.bz rfl rfl (elC_one hE.is) ?_
    intro w11 B11 c11
    repeat' (first | (simp (disch := omega) only [push_cast, ↓reduceIte, zA, zG, zB, zH, zI, zC, zJ, zK, zL, zD, zE, zF, zM, zN, zO, zP, zQ, reduceCtorEq, not_true_eq_false, not_false_eq_true]) | (first | refine vIfE_of ?_ ?_ | refine vIfD_of ?_ ?_ | refine vIfQ_of ?_ ?_ | refine vIfV_of ?_ ?_) <;> intro _ | refine And.intro (by omega) ?_ | refine drawn_q ?_ | fail)
    refine resK_cells (s := 4) (by simp (disch := omega) only [push_cast, ↓reduceIte, zA, zG, zB, zH, zI, zC, zJ, zK, zL, zD, zE, zF, zM, zN, zO, zP, zQ, reduceCtorEq, not_true_eq_false, not_false_eq_true]) (by rw [Try.underlying35]; exact sz35) (Blk.cellsAt (l := elC ⟨x.t, x.d, x.n + y.n, lst, U, av⟩) B11) ?_
    repeat' (first | (simp (disch := omega) only [push_cast, ↓reduceIte, zA, zG, zB, zH, zI, zC, zJ, zK, zL, zD, zE, zF, zM, zN, zO, zP, zQ, reduceCtorEq, not_true_eq_false, not_false_eq_true]) | (first | refine vIfE_of ?_ ?_ | refine vIfD_of ?_ ?_ | refine vIfQ_of ?_ ?_ | refine vIfV_of ?_ ?_) <;> intro _ | refine And.intro (by omega) ?_ | refine drawn_q ?_ | fail)
    exact ⟨⟨x.t, x.d, x.n + y.n, lst, U, av⟩, 0, rfl, hj, hE.chg J.bz c11, Chg.later J.later c11 (by intro j hj; rw [List.mem_singleton.1 hj]; omega)⟩
end Go.Proofs.Ythihbgpaoldbjaa
end
