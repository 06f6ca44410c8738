/- Contracts: rows merged, each class in its order. -/
import Derived.Test.YthihbgpaoldbjaaPartH
set_option linter.all false
open Nat renaming reduceEqDiff → zA, reducePow → zB, reduceMul → zC, reduceAdd → zD, reduceSub → zE, reduceLeDiff → zF
open Int renaming reduceToNat → zG, reducePow → zH, reduceNeg → zI, reduceMul → zJ, reduceAdd → zK, reduceSub → zL, reduceLT → zM, reduceLE → zN, reduceEq → zO, reduceMod → zP, reduceDiv → zQ
section
set_option linter.unusedSimpArgs false
namespace Go.Stab
variable {α : Type} {lt : α → α → Bool}
theorem pref_lt [Inhabited α] (hs : Swo lt) {V : List α} {e : α} {p : Nat} (sV : Srt lt V) (hp : p ≤ V.length) (k1 : p = 0 ∨ lt V[p - 1]! e = true) : ∀ s ∈ V.take p, lt s e = true := by
  intro s hs'
  obtain ⟨i, hi, rfl⟩ := mem_at hs'
  rw [List.length_take] at hi
  rcases k1 with h | h
  · omega
  have ex : (V.take p)[i]! = V[i]! := by rw [getElem!_pos _ i (by simp; omega), getElem!_pos V i (by omega), List.getElem_take]
  rw [ex]
  exact hs.le_lt (srt_get hs sV (show i ≤ p - 1 by omega) (by omega)) h
theorem head_at [Inhabited α] {V : List α} {p : Nat} (q : α → Prop) (hp : p ≤ V.length) (k2 : p = V.length ∨ q V[p]!) : V.drop p = [] ∨ ∃ x T, V.drop p = x :: T ∧ q x := by
  rcases k2 with h | h
  · exact .inl (List.drop_eq_nil_of_le (by omega))
  · by_cases hl : p < V.length
    · refine .inr ⟨V[p], V.drop (p + 1), List.drop_eq_getElem_cons hl, ?_⟩
      rwa [getElem!_pos V p hl] at h
    · exact .inl (List.drop_eq_nil_of_le (by omega))
theorem last_at [Inhabited α] {U : List α} {p : Nat} (q : α → Prop) (hp : p ≤ U.length) (k1 : p = 0 ∨ q U[p - 1]!) : U.take p = [] ∨ ∃ T x, U.take p = T ++ [x] ∧ q x := by
  rcases k1 with h | h
  · subst h; exact .inl rfl
  · by_cases h0 : p = 0
    · subst h0; exact .inl rfl
    · refine .inr ⟨U.take (p - 1), U[p - 1], ?_, ?_⟩
      · have := Go.Vc.take_snoc U (p - 1) (by omega)
        rw [show p - 1 + 1 = p by omega] at this
        exact this
      · rwa [getElem!_pos U (p - 1) (by omega)] at h
theorem suf_lt [Inhabited α] (hs : Swo lt) {U : List α} {e : α} {p : Nat} (sU : Srt lt U) (k2 : p = U.length ∨ lt e U[p]! = true) : ∀ s ∈ U.drop p, lt e s = true := by
  intro s hs'
  obtain ⟨i, hi, rfl⟩ := mem_at hs'
  rw [List.length_drop] at hi
  rcases k2 with h | h
  · omega
  have ex : (U.drop p)[i]! = U[p + i]! := by rw [getElem!_pos _ i (by simp; omega), getElem!_pos U (p + i) (by omega), List.getElem_drop]
  rw [ex]
  exact hs.lt_le h (srt_get hs sU (show p ≤ p + i by omega) (by omega))
theorem cur_UV [Inhabited α] (X M Y : List α) {i : Nat} (h1 : X.length ≤ i) (h2 : i < X.length + M.length) : (X ++ M ++ Y)[i]! = M[i - X.length]! := by
  rw [getElem!_pos _ i (by simp; omega), getElem!_pos M _ (by omega), List.getElem_append_left (by simp; omega), List.getElem_append_right h1]
end Go.Stab
namespace Go.Proofs.Ythihbgpaoldbjaa
open Go.Vc Go.Key Go.Stab
set_option maxRecDepth 100000
/-- What the merge leaves. -/
def Mg (B B' g c : Nat) (L X M Y : List El) (w w' : World) : Prop := ∃ Z, Srt elt Z ∧ Stb elt M Z ∧ Sw w' B B' g c L (X ++ Z ++ Y) ∧ Chg w w' [g]
/-- One element at the front of sorted ones. -/
theorem mergeA_c (B B' g c : Nat) (L X : List El) (e : El) (V Y : List El) (a m b : Nat) (w : World) (h : Sw w B B' g c L (X ++ ([e] ++ V) ++ Y)) (hX : X.length = a) (hm : m = a + 1) (hV : V.length = b - m) (hmb : m < b) (sV : Srt elt V) :
    FnC Try.prog 110 #[.slice (some ⟨g, 0, none⟩) (X ++ ([e] ++ V) ++ Y).length c, .int .i64 (a : Int), .int .i64 (m : Int), .int .i64 (b : Int), cmpV] w fun r w' => Mg B B' g c L X ([e] ++ V) Y w w' := by
  have hs := elt_swo
  have hbig := h.big
  have hlen : (X ++ ([e] ++ V) ++ Y).length = b + Y.length := by simp; omega
  rw [hlen] at hbig
  have ha : (X ++ ([e] ++ V) ++ Y)[a]! = e := by rw [cur_UV _ _ _ (by omega) (by simp; omega), hX, Nat.sub_self]; rfl
  have gV : ∀ t, t < V.length → (X ++ ([e] ++ V) ++ Y)[m + t]! = V[t]! := fun t ht => by
    rw [cur_UV _ _ _ (by omega) (by simp; omega), hX]
    have : m + t - a = ([e] : List El).length + t := by simp; omega
    rw [this, app_r ht]
  generalize hcur : X ++ ([e] ++ V) ++ Y = cur at *
  generalize hN : cur.length = N at *
  refine enter110 _ _ _ _ _ ?_
  unfold B110
  repeat' (first | (simp (disch := omega) only [push_cast, ↓reduceIte, zA, zG, zB, zH, zI, zC, zJ, zK, zL, zD, zE, zF, zM, zN, zO, zP, zQ, reduceCtorEq, not_true_eq_false, not_false_eq_true]) | (first | refine vIfE_of ?_ ?_ | refine vIfD_of ?_ ?_ | refine vIfQ_of ?_ ?_ | refine vIfV_of ?_ ?_) <;> intro _ | refine And.intro (by omega) ?_ | refine drawn_q ?_ | fail)
  refine vc_loop W110_0 (fun p : Nat × Nat => [(10, .int .i64 (p.1 : Int)), (11, .int .i64 (p.2 : Int))])
    (fun p w' => m ≤ p.1 ∧ p.1 ≤ p.2 ∧ p.2 ≤ b ∧ (p.1 = m ∨ elt cur[p.1 - 1]! cur[a]! = true) ∧ (p.2 = b ∨ elt cur[p.2]! cur[a]! = false) ∧ Later w w') (fun p => p.2 - p.1) (m, b) (by decide) ?_ ?_ ?_
  · simp (disch := omega) only [push_cast, ↓reduceIte, zA, zG, zB, zH, zI, zC, zJ, zK, zL, zD, zE, zF, zM, zN, zO, zP, zQ, reduceCtorEq, not_true_eq_false, not_false_eq_true]
  · exact ⟨by dsimp only; omega, by dsimp only; omega, by dsimp only; omega, .inl rfl, .inl rfl, Later.refl _⟩
  rintro ⟨i, j⟩ uu w1 ⟨q1, q2, q3, q4, q5, l1⟩
  dsimp only at q1 q2 q3 q4 q5
  have h1 := h.later l1
  by_cases hij : i < j
  · obtain ⟨r, hr⟩ : ∃ r : Nat, r = (i + j) / 2 := ⟨_, rfl⟩
    have e1 : ((i : Int) + (j : Int)) / 2 = (r : Int) := by omega
    have e2 : ((i : Int) + (j : Int)) / 2 ^ 1 = (r : Int) := by rw [Int.pow_succ]; simpa using e1
    have t1 : ((r : Int)).toNat = r := by omega
    have t2 : ((a : Int)).toNat = a := by omega
    have fr := h1.at (i := r) (by omega)
    have fa := h1.at (i := a) (by omega)
    have er := h1.elAt (i := r) (by omega)
    have ea := h1.elAt (i := a) (by omega)
    repeat' (first | (simp (disch := omega) only [push_cast, ↓reduceIte, zA, zG, zB, zH, zI, zC, zJ, zK, zL, zD, zE, zF, zM, zN, zO, zP, zQ, reduceCtorEq, not_true_eq_false, not_false_eq_true, e1, e2, t1, t2, fr, fa]) | (first | refine vIfE_of ?_ ?_ | refine vIfD_of ?_ ?_ | refine vIfQ_of ?_ ?_ | refine vIfV_of ?_ ?_) <;> intro _ | refine And.intro (by omega) ?_ | refine drawn_q ?_ | fail)
    refine QFn.of hb34 (v := .int .i64 (ecmp cur[r]! cur[a]!)) (fun w' hl => rcompare_c _ _ w' (er.is.later hl) (ea.is.later hl)) ?_
    have hcmp : elt cur[r]! cur[a]! = decide (ecmp cur[r]! cur[a]! < 0) := rfl
    by_cases hlt : ecmp cur[r]! cur[a]! < 0
    · repeat' (first | (simp (disch := omega) only [push_cast, ↓reduceIte, zA, zG, zB, zH, zI, zC, zJ, zK, zL, zD, zE, zF, zM, zN, zO, zP, zQ, reduceCtorEq, not_true_eq_false, not_false_eq_true]) | (first | refine vIfE_of ?_ ?_ | refine vIfD_of ?_ ?_ | refine vIfQ_of ?_ ?_ | refine vIfV_of ?_ ?_) <;> intro _ | refine And.intro (by omega) ?_ | refine drawn_q ?_ | fail)
      intro w2 l2
      repeat' (first | (simp (disch := omega) only [push_cast, ↓reduceIte, zA, zG, zB, zH, zI, zC, zJ, zK, zL, zD, zE, zF, zM, zN, zO, zP, zQ, reduceCtorEq, not_true_eq_false, not_false_eq_true]) | (first | refine vIfE_of ?_ ?_ | refine vIfD_of ?_ ?_ | refine vIfQ_of ?_ ?_ | refine vIfV_of ?_ ?_) <;> intro _ | refine And.intro (by omega) ?_ | refine drawn_q ?_ | fail)
      exact ⟨rfl, (r + 1, j), by simp (disch := omega) only [push_cast, ↓reduceIte, zA, zG, zB, zH, zI, zC, zJ, zK, zL, zD, zE, zF, zM, zN, zO, zP, zQ, reduceCtorEq, not_true_eq_false, not_false_eq_true], ⟨by dsimp only; omega, by dsimp only; omega, q3, .inr (by rw [show r + 1 - 1 = r by omega, hcmp]; exact decide_eq_true hlt), q5, l1.trans l2⟩, by dsimp only; omega⟩
    · repeat' (first | (simp (disch := omega) only [push_cast, ↓reduceIte, zA, zG, zB, zH, zI, zC, zJ, zK, zL, zD, zE, zF, zM, zN, zO, zP, zQ, reduceCtorEq, not_true_eq_false, not_false_eq_true]) | (first | refine vIfE_of ?_ ?_ | refine vIfD_of ?_ ?_ | refine vIfQ_of ?_ ?_ | refine vIfV_of ?_ ?_) <;> intro _ | refine And.intro (by omega) ?_ | refine drawn_q ?_ | fail)
      intro w2 l2
      repeat' (first | (simp (disch := omega) only [push_cast, ↓reduceIte, zA, zG, zB, zH, zI, zC, zJ, zK, zL, zD, zE, zF, zM, zN, zO, zP, zQ, reduceCtorEq, not_true_eq_false, not_false_eq_true]) | (first | refine vIfE_of ?_ ?_ | refine vIfD_of ?_ ?_ | refine vIfQ_of ?_ ?_ | refine vIfV_of ?_ ?_) <;> intro _ | refine And.intro (by omega) ?_ | refine drawn_q ?_ | fail)
      exact ⟨rfl, (i, r), by simp (disch := omega) only [push_cast, ↓reduceIte, zA, zG, zB, zH, zI, zC, zJ, zK, zL, zD, zE, zF, zM, zN, zO, zP, zQ, reduceCtorEq, not_true_eq_false, not_false_eq_true], ⟨q1, by dsimp only; omega, by dsimp only; omega, q4, .inr (by rw [hcmp]; exact decide_eq_false hlt), l1.trans l2⟩, by dsimp only; omega⟩
  · have hji : j = i := by omega
    subst hji
    obtain ⟨p, hp⟩ : ∃ p, p = j - m := ⟨_, rfl⟩
    have k1 : p = 0 ∨ elt V[p - 1]! e = true := by
      rcases q4 with h | h
      · left; omega
      · by_cases h0 : p = 0
        · exact .inl h0
        · right
          rw [← gV (p - 1) (by omega), ← ha]
          rwa [show m + (p - 1) = j - 1 by omega]
    have k2 : p = V.length ∨ elt V[p]! e = false := by
      rcases q5 with h | h
      · left; omega
      · by_cases h0 : p < V.length
        · right
          rw [← gV p h0, ← ha]
          rwa [show m + p = j by omega]
        · left; omega
    have hV1 := pref_lt hs sV (by omega) k1
    have hV2 := head_at (fun x => elt x e = false) (by omega) k2
    have hVV : V = V.take p ++ V.drop p := (List.take_append_drop _ _).symm
    have hp1 : (V.take p).length = p := by rw [List.length_take]; omega
    generalize V.take p = V1 at *
    generalize V.drop p = V2 at *
    repeat' (first | (simp (disch := omega) only [push_cast, ↓reduceIte, zA, zG, zB, zH, zI, zC, zJ, zK, zL, zD, zE, zF, zM, zN, zO, zP, zQ, reduceCtorEq, not_true_eq_false, not_false_eq_true]) | (first | refine vIfE_of ?_ ?_ | refine vIfD_of ?_ ?_ | refine vIfQ_of ?_ ?_ | refine vIfV_of ?_ ?_) <;> intro _ | refine And.intro (by omega) ?_ | refine drawn_q ?_ | fail)
    refine vc_loop W110_1 (fun s : Nat => [(13, .int .i64 ((a : Int) + (s : Int)))])
      (fun s w' => s ≤ p ∧ ∃ T1 T2, V1 = T1 ++ T2 ∧ T1.length = s ∧ Sw w' B B' g c L ((X ++ T1) ++ e :: (T2 ++ (V2 ++ Y))) ∧ Chg w w' [g]) (fun s => p - s) 0 (by decide) ?_ ?_ ?_
    · simp (disch := omega) only [push_cast, ↓reduceIte, zA, zG, zB, zH, zI, zC, zJ, zK, zL, zD, zE, zF, zM, zN, zO, zP, zQ, reduceCtorEq, not_true_eq_false, not_false_eq_true, Int.add_zero]
    · refine ⟨by omega, [], V1, rfl, rfl, ?_, Chg.of_later l1⟩
      rw [← hcur, hVV] at h1
      simpa using h1
    rintro s uu2 w2 ⟨hsp, T1, T2, hTT, hT1, h2, c2⟩
    have hXT : (X ++ T1).length = a + s := by rw [List.length_append]; omega
    have hN2 : ((X ++ T1) ++ e :: (T2 ++ (V2 ++ Y))).length = N := by
      rw [← hN, ← hcur, hVV, hTT]
      simp only [List.length_append, List.length_cons, List.length_nil]
      omega
    have hTl := congrArg List.length hTT
    rw [List.length_append] at hTl
    by_cases hlt : s < p
    · obtain ⟨x, T, rfl⟩ : ∃ x T, T2 = x :: T := by
        cases T2 with
        | nil => simp at hTl; omega
        | cons x T => exact ⟨x, T, rfl⟩
      have ge : ((X ++ T1) ++ e :: (x :: T ++ (V2 ++ Y)))[a + s]! = e := by rw [← hXT]; exact get_app _ _ _
      have hcur2 : (X ++ T1) ++ e :: (x :: T ++ (V2 ++ Y)) = ((X ++ T1) ++ [e]) ++ x :: (T ++ (V2 ++ Y)) := by simp
      have gx : ((X ++ T1) ++ e :: (x :: T ++ (V2 ++ Y)))[a + s + 1]! = x := by
        rw [hcur2, show a + s + 1 = ((X ++ T1) ++ [e]).length by rw [List.length_append, hXT]; rfl]; exact get_app _ _ _
      have hN2' : a + s + 1 < ((X ++ T1) ++ e :: (x :: T ++ (V2 ++ Y))).length := by
        rw [hcur2]; simp only [List.length_append, List.length_cons]; omega
      have t1 : ((a : Int) + (s : Int)).toNat = a + s := by omega
      have t2 : ((a : Int) + (s : Int) + 1).toNat = a + s + 1 := by omega
      have fe := h2.at (i := a + s) (by omega)
      have fx := h2.at (i := a + s + 1) (by omega)
      rw [ge] at fe
      rw [gx] at fx
      repeat' (first | (simp (disch := omega) only [push_cast, ↓reduceIte, zA, zG, zB, zH, zI, zC, zJ, zK, zL, zD, zE, zF, zM, zN, zO, zP, zQ, reduceCtorEq, not_true_eq_false, not_false_eq_true]) | (first | refine vIfE_of ?_ ?_ | refine vIfD_of ?_ ?_ | refine vIfQ_of ?_ ?_ | refine vIfV_of ?_ ?_) <;> intro _ | refine And.intro (by omega) ?_ | fail)
      refine drawnS_k 15 ?_
      repeat' (first | (simp (disch := omega) only [push_cast, ↓reduceIte, zA, zG, zB, zH, zI, zC, zJ, zK, zL, zD, zE, zF, zM, zN, zO, zP, zQ, reduceCtorEq, not_true_eq_false, not_false_eq_true, t1, t2, fe, fx]) | (first | refine vIfE_of ?_ ?_ | refine vIfD_of ?_ ?_ | refine vIfQ_of ?_ ?_ | refine vIfV_of ?_ ?_) <;> intro _ | refine And.intro (by omega) ?_ | fail)
      refine ⟨rfl, fun w3 l3 => ⟨by simp (disch := omega) only [push_cast, ↓reduceIte, zA, zG, zB, zH, zI, zC, zJ, zK, zL, zD, zE, zF, zM, zN, zO, zP, zQ, reduceCtorEq, not_true_eq_false, not_false_eq_true, implies_true, and_self], ?_⟩⟩
      have h3 := h2.later l3
      repeat' (first | (simp (disch := omega) only [push_cast, ↓reduceIte, zA, zG, zB, zH, zI, zC, zJ, zK, zL, zD, zE, zF, zM, zN, zO, zP, zQ, reduceCtorEq, not_true_eq_false, not_false_eq_true, t1, t2]) | (first | refine vIfE_of ?_ ?_ | refine vIfD_of ?_ ?_ | refine vIfQ_of ?_ ?_ | refine vIfV_of ?_ ?_) <;> intro _ | refine And.intro (by omega) ?_ | fail)
      have mx := h3.mem (i := a + s + 1) (by omega)
      have me := h3.mem (i := a + s) (by omega)
      rw [gx] at mx
      rw [ge] at me
      refine h3.store (i := a + s) (by omega) mx fun w4 h4 c4 => ?_
      repeat' (first | (simp (disch := omega) only [push_cast, ↓reduceIte, zA, zG, zB, zH, zI, zC, zJ, zK, zL, zD, zE, zF, zM, zN, zO, zP, zQ, reduceCtorEq, not_true_eq_false, not_false_eq_true, t2]) | (first | refine vIfE_of ?_ ?_ | refine vIfD_of ?_ ?_ | refine vIfQ_of ?_ ?_ | refine vIfV_of ?_ ?_) <;> intro _ | refine And.intro (by omega) ?_ | fail)
      refine h4.store (i := a + s + 1) (by simp only [List.length_set]; omega) me fun w5 h5 c5 => ?_
      have e6 : ((((X ++ T1) ++ e :: (x :: T ++ (V2 ++ Y))).set (a + s) x).set (a + s + 1) e) = (X ++ (T1 ++ [x])) ++ e :: (T ++ (V2 ++ Y)) := by
        have := sw_app (X ++ T1) [] (T ++ (V2 ++ Y)) e x
        unfold sw at this
        rw [show (X ++ T1).length + 1 + ([] : List El).length = a + s + 1 by rw [hXT]; rfl, hXT] at this
        have hcc : (X ++ T1) ++ e :: ([] ++ x :: (T ++ (V2 ++ Y))) = (X ++ T1) ++ e :: (x :: T ++ (V2 ++ Y)) := by simp
        rw [hcc, ge, gx] at this
        rw [this]
        simp
      rw [e6] at h5
      have e7 : (a : Int) + (s : Int) + 1 = (a : Int) + ((s : Int) + 1) := by omega
      repeat' (first | (simp (disch := omega) only [push_cast, ↓reduceIte, zA, zG, zB, zH, zI, zC, zJ, zK, zL, zD, zE, zF, zM, zN, zO, zP, zQ, reduceCtorEq, not_true_eq_false, not_false_eq_true, e7]) | (first | refine vIfE_of ?_ ?_ | refine vIfD_of ?_ ?_ | refine vIfQ_of ?_ ?_ | refine vIfV_of ?_ ?_) <;> intro _ | refine And.intro (by omega) ?_ | refine drawn_q ?_ | fail)
      exact ⟨rfl, s + 1, by simp (disch := omega) only [push_cast, ↓reduceIte, zA, zG, zB, zH, zI, zC, zJ, zK, zL, zD, zE, zF, zM, zN, zO, zP, zQ, reduceCtorEq, not_true_eq_false, not_false_eq_true, e7], ⟨by omega, T1 ++ [x], T, by rw [hTT]; simp, by simp [hT1], h5, ((c2.trans (Chg.of_later l3)).trans c4).trans c5⟩, by dsimp only; omega⟩
    · have hT2 : T2 = [] := List.length_eq_zero_iff.1 (by omega)
      subst hT2
      rw [List.append_nil] at hTT
      subst hTT
      have hf : Mg B B' g c L X ([e] ++ V) Y w w2 := by
        refine ⟨V1 ++ e :: V2, front_srt hs (by rw [← hVV]; exact sV) hV1 hV2, ?_, by simpa using h2, c2⟩
        rw [hVV]
        exact front_stb hs hV1
      repeat' (first | (simp (disch := omega) only [push_cast, ↓reduceIte, zA, zG, zB, zH, zI, zC, zJ, zK, zL, zD, zE, zF, zM, zN, zO, zP, zQ, reduceCtorEq, not_true_eq_false, not_false_eq_true]) | (first | refine vIfE_of ?_ ?_ | refine vIfD_of ?_ ?_ | refine vIfQ_of ?_ ?_ | refine vIfV_of ?_ ?_) <;> intro _ | refine And.intro (by omega) ?_ | refine drawn_q ?_ | fail)
      exact hf
/-- One element behind sorted ones. -/
theorem mergeB_c (B B' g c : Nat) (L X U : List El) (e : El) (Y : List El) (a m b : Nat) (w : World) (h : Sw w B B' g c L (X ++ (U ++ [e]) ++ Y)) (hX : X.length = a) (hU : U.length = m - a) (ham : a + 1 < m) (hb : b = m + 1) (sU : Srt elt U) :
    FnC Try.prog 110 #[.slice (some ⟨g, 0, none⟩) (X ++ (U ++ [e]) ++ Y).length c, .int .i64 (a : Int), .int .i64 (m : Int), .int .i64 (b : Int), cmpV] w fun r w' => Mg B B' g c L X (U ++ [e]) Y w w' := by
  have hs := elt_swo
  have hbig := h.big
  have hlen : (X ++ (U ++ [e]) ++ Y).length = b + Y.length := by simp; omega
  rw [hlen] at hbig
  have hme : (X ++ (U ++ [e]) ++ Y)[m]! = e := by
    rw [cur_UV _ _ _ (by omega) (by simp; omega), hX]
    have : m - a = U.length + 0 := by omega
    rw [this, app_r (by simp)]; rfl
  have gU : ∀ t, t < U.length → (X ++ (U ++ [e]) ++ Y)[a + t]! = U[t]! := fun t ht => by
    rw [cur_UV _ _ _ (by omega) (by simp; omega), hX, show a + t - a = t by omega, app_l ht]
  generalize hcur : X ++ (U ++ [e]) ++ Y = cur at *
  generalize hN : cur.length = N at *
  refine enter110 _ _ _ _ _ ?_
  unfold B110
  repeat' (first | (simp (disch := omega) only [push_cast, ↓reduceIte, zA, zG, zB, zH, zI, zC, zJ, zK, zL, zD, zE, zF, zM, zN, zO, zP, zQ, reduceCtorEq, not_true_eq_false, not_false_eq_true]) | (first | refine vIfE_of ?_ ?_ | refine vIfD_of ?_ ?_ | refine vIfQ_of ?_ ?_ | refine vIfV_of ?_ ?_) <;> intro _ | refine And.intro (by omega) ?_ | refine drawn_q ?_ | fail)
  refine vc_loop W110_2 (fun p : Nat × Nat => [(14, .int .i64 (p.1 : Int)), (15, .int .i64 (p.2 : Int))])
    (fun p w' => a ≤ p.1 ∧ p.1 ≤ p.2 ∧ p.2 ≤ m ∧ (p.1 = a ∨ elt cur[m]! cur[p.1 - 1]! = false) ∧ (p.2 = m ∨ elt cur[m]! cur[p.2]! = true) ∧ Later w w') (fun p => p.2 - p.1) (a, m) (by decide) ?_ ?_ ?_
  · simp (disch := omega) only [push_cast, ↓reduceIte, zA, zG, zB, zH, zI, zC, zJ, zK, zL, zD, zE, zF, zM, zN, zO, zP, zQ, reduceCtorEq, not_true_eq_false, not_false_eq_true]
  · exact ⟨by dsimp only; omega, by dsimp only; omega, by dsimp only; omega, .inl rfl, .inl rfl, Later.refl _⟩
  rintro ⟨i, j⟩ uu w1 ⟨q1, q2, q3, q4, q5, l1⟩
  dsimp only at q1 q2 q3 q4 q5
  have h1 := h.later l1
  by_cases hij : i < j
  · obtain ⟨r, hr⟩ : ∃ r : Nat, r = (i + j) / 2 := ⟨_, rfl⟩
    have e1 : ((i : Int) + (j : Int)) / 2 = (r : Int) := by omega
    have e2 : ((i : Int) + (j : Int)) / 2 ^ 1 = (r : Int) := by rw [Int.pow_succ]; simpa using e1
    have t1 : ((r : Int)).toNat = r := by omega
    have t2 : ((m : Int)).toNat = m := by omega
    have fr := h1.at (i := r) (by omega)
    have fa := h1.at (i := m) (by omega)
    have er := h1.elAt (i := r) (by omega)
    have ea := h1.elAt (i := m) (by omega)
    repeat' (first | (simp (disch := omega) only [push_cast, ↓reduceIte, zA, zG, zB, zH, zI, zC, zJ, zK, zL, zD, zE, zF, zM, zN, zO, zP, zQ, reduceCtorEq, not_true_eq_false, not_false_eq_true, e1, e2, t1, t2, fr, fa]) | (first | refine vIfE_of ?_ ?_ | refine vIfD_of ?_ ?_ | refine vIfQ_of ?_ ?_ | refine vIfV_of ?_ ?_) <;> intro _ | refine And.intro (by omega) ?_ | refine drawn_q ?_ | fail)
    refine QFn.of hb34 (v := .int .i64 (ecmp cur[m]! cur[r]!)) (fun w' hl => rcompare_c _ _ w' (ea.is.later hl) (er.is.later hl)) ?_
    have hcmp : elt cur[m]! cur[r]! = decide (ecmp cur[m]! cur[r]! < 0) := rfl
    by_cases hlt : ecmp cur[m]! cur[r]! < 0
    · repeat' (first | (simp (disch := omega) only [push_cast, ↓reduceIte, zA, zG, zB, zH, zI, zC, zJ, zK, zL, zD, zE, zF, zM, zN, zO, zP, zQ, reduceCtorEq, not_true_eq_false, not_false_eq_true]) | (first | refine vIfE_of ?_ ?_ | refine vIfD_of ?_ ?_ | refine vIfQ_of ?_ ?_ | refine vIfV_of ?_ ?_) <;> intro _ | refine And.intro (by omega) ?_ | refine drawn_q ?_ | fail)
      intro w2 l2
      repeat' (first | (simp (disch := omega) only [push_cast, ↓reduceIte, zA, zG, zB, zH, zI, zC, zJ, zK, zL, zD, zE, zF, zM, zN, zO, zP, zQ, reduceCtorEq, not_true_eq_false, not_false_eq_true]) | (first | refine vIfE_of ?_ ?_ | refine vIfD_of ?_ ?_ | refine vIfQ_of ?_ ?_ | refine vIfV_of ?_ ?_) <;> intro _ | refine And.intro (by omega) ?_ | refine drawn_q ?_ | fail)
      exact ⟨rfl, (i, r), by simp (disch := omega) only [push_cast, ↓reduceIte, zA, zG, zB, zH, zI, zC, zJ, zK, zL, zD, zE, zF, zM, zN, zO, zP, zQ, reduceCtorEq, not_true_eq_false, not_false_eq_true], ⟨q1, by dsimp only; omega, by dsimp only; omega, q4, .inr (by rw [hcmp]; exact decide_eq_true hlt), l1.trans l2⟩, by dsimp only; omega⟩
    · repeat' (first | (simp (disch := omega) only [push_cast, ↓reduceIte, zA, zG, zB, zH, zI, zC, zJ, zK, zL, zD, zE, zF, zM, zN, zO, zP, zQ, reduceCtorEq, not_true_eq_false, not_false_eq_true]) | (first | refine vIfE_of ?_ ?_ | refine vIfD_of ?_ ?_ | refine vIfQ_of ?_ ?_ | refine vIfV_of ?_ ?_) <;> intro _ | refine And.intro (by omega) ?_ | refine drawn_q ?_ | fail)
      intro w2 l2
      repeat' (first | (simp (disch := omega) only [push_cast, ↓reduceIte, zA, zG, zB, zH, zI, zC, zJ, zK, zL, zD, zE, zF, zM, zN, zO, zP, zQ, reduceCtorEq, not_true_eq_false, not_false_eq_true]) | (first | refine vIfE_of ?_ ?_ | refine vIfD_of ?_ ?_ | refine vIfQ_of ?_ ?_ | refine vIfV_of ?_ ?_) <;> intro _ | refine And.intro (by omega) ?_ | refine drawn_q ?_ | fail)
      exact ⟨rfl, (r + 1, j), by simp (disch := omega) only [push_cast, ↓reduceIte, zA, zG, zB, zH, zI, zC, zJ, zK, zL, zD, zE, zF, zM, zN, zO, zP, zQ, reduceCtorEq, not_true_eq_false, not_false_eq_true], ⟨by dsimp only; omega, by dsimp only; omega, q3, .inr (by rw [show r + 1 - 1 = r by omega, hcmp]; exact decide_eq_false hlt), q5, l1.trans l2⟩, by dsimp only; omega⟩
  · have hji : j = i := by omega
    subst hji
    obtain ⟨p, hp⟩ : ∃ p, p = j - a := ⟨_, rfl⟩
    have k1 : p = 0 ∨ elt e U[p - 1]! = false := by
      rcases q4 with h | h
      · left; omega
      · by_cases h0 : p = 0
        · exact .inl h0
        · right
          rw [← gU (p - 1) (by omega), ← hme]
          rwa [show a + (p - 1) = j - 1 by omega]
    have k2 : p = U.length ∨ elt e U[p]! = true := by
      rcases q5 with h | h
      · left; omega
      · by_cases h0 : p < U.length
        · right
          rw [← gU p h0, ← hme]
          rwa [show a + p = j by omega]
        · left; omega
    have hS1 := last_at (fun x => elt e x = false) (by omega) k1
    have hS2 := suf_lt hs sU k2
    have hUU : U = U.take p ++ U.drop p := (List.take_append_drop _ _).symm
    have hp1 : (U.take p).length = p := by rw [List.length_take]; omega
    have hp2 : (U.drop p).length = m - j := by rw [List.length_drop]; omega
    generalize U.take p = S1 at *
    generalize U.drop p = S2 at *
    repeat' (first | (simp (disch := omega) only [push_cast, ↓reduceIte, zA, zG, zB, zH, zI, zC, zJ, zK, zL, zD, zE, zF, zM, zN, zO, zP, zQ, reduceCtorEq, not_true_eq_false, not_false_eq_true]) | (first | refine vIfE_of ?_ ?_ | refine vIfD_of ?_ ?_ | refine vIfQ_of ?_ ?_ | refine vIfV_of ?_ ?_) <;> intro _ | refine And.intro (by omega) ?_ | refine drawn_q ?_ | fail)
    refine vc_loop W110_3 (fun s : Nat => [(17, .int .i64 ((j : Int) + (s : Int)))])
      (fun s w' => ∃ T1 T2, S2 = T1 ++ T2 ∧ T1.length = s ∧ Sw w' B B' g c L ((X ++ (S1 ++ T1)) ++ e :: (T2 ++ Y)) ∧ Chg w w' [g]) (fun s => s) (m - j) (by decide) ?_ ?_ ?_
    · have e0 : (j : Int) + ((m : Int) - (j : Int)) = (m : Int) := by omega
      simp (disch := omega) only [push_cast, ↓reduceIte, zA, zG, zB, zH, zI, zC, zJ, zK, zL, zD, zE, zF, zM, zN, zO, zP, zQ, reduceCtorEq, not_true_eq_false, not_false_eq_true, e0]
    · refine ⟨S2, [], by simp, hp2, ?_, Chg.of_later l1⟩
      rw [← hcur, hUU] at h1
      simpa using h1
    rintro s uu2 w2 ⟨T1, T2, hTT, hT1, h2, c2⟩
    have hXT : (X ++ (S1 ++ T1)).length = j + s := by rw [List.length_append, List.length_append]; omega
    have hN2 : ((X ++ (S1 ++ T1)) ++ e :: (T2 ++ Y)).length = N := by
      rw [← hN, ← hcur, hUU, hTT]
      simp only [List.length_append, List.length_cons, List.length_nil]
      omega
    have hTl := congrArg List.length hTT
    rw [List.length_append] at hTl
    by_cases hlt : 0 < s
    · obtain ⟨T, x, rfl⟩ : ∃ T x, T1 = T ++ [x] := ⟨T1.dropLast, T1.getLast (by intro h; rw [h] at hT1; simp at hT1; omega), (List.dropLast_concat_getLast _).symm⟩
      have hcur2 : (X ++ (S1 ++ (T ++ [x]))) ++ e :: (T2 ++ Y) = (X ++ (S1 ++ T)) ++ x :: (e :: (T2 ++ Y)) := by simp
      have hXT' : (X ++ (S1 ++ T)).length = j + s - 1 := by simp only [List.length_append, List.length_cons, List.length_nil] at hXT ⊢; omega
      have ge : ((X ++ (S1 ++ (T ++ [x]))) ++ e :: (T2 ++ Y))[j + s]! = e := by rw [← hXT]; exact get_app _ _ _
      have gx : ((X ++ (S1 ++ (T ++ [x]))) ++ e :: (T2 ++ Y))[j + s - 1]! = x := by rw [hcur2, ← hXT']; exact get_app _ _ _
      have hN2' : j + s < ((X ++ (S1 ++ (T ++ [x]))) ++ e :: (T2 ++ Y)).length := by
        rw [List.length_append, hXT]; simp
      have t1 : ((j : Int) + (s : Int)).toNat = j + s := by omega
      have t2 : ((j : Int) + (s : Int) - 1).toNat = j + s - 1 := by omega
      have fe := h2.at (i := j + s) (by omega)
      have fx := h2.at (i := j + s - 1) (by omega)
      rw [ge] at fe
      rw [gx] at fx
      repeat' (first | (simp (disch := omega) only [push_cast, ↓reduceIte, zA, zG, zB, zH, zI, zC, zJ, zK, zL, zD, zE, zF, zM, zN, zO, zP, zQ, reduceCtorEq, not_true_eq_false, not_false_eq_true]) | (first | refine vIfE_of ?_ ?_ | refine vIfD_of ?_ ?_ | refine vIfQ_of ?_ ?_ | refine vIfV_of ?_ ?_) <;> intro _ | refine And.intro (by omega) ?_ | fail)
      refine drawnS_k 15 ?_
      repeat' (first | (simp (disch := omega) only [push_cast, ↓reduceIte, zA, zG, zB, zH, zI, zC, zJ, zK, zL, zD, zE, zF, zM, zN, zO, zP, zQ, reduceCtorEq, not_true_eq_false, not_false_eq_true, t1, t2, fe, fx]) | (first | refine vIfE_of ?_ ?_ | refine vIfD_of ?_ ?_ | refine vIfQ_of ?_ ?_ | refine vIfV_of ?_ ?_) <;> intro _ | refine And.intro (by omega) ?_ | fail)
      refine ⟨rfl, fun w3 l3 => ⟨by simp (disch := omega) only [push_cast, ↓reduceIte, zA, zG, zB, zH, zI, zC, zJ, zK, zL, zD, zE, zF, zM, zN, zO, zP, zQ, reduceCtorEq, not_true_eq_false, not_false_eq_true, implies_true, and_self], ?_⟩⟩
      have h3 := h2.later l3
      repeat' (first | (simp (disch := omega) only [push_cast, ↓reduceIte, zA, zG, zB, zH, zI, zC, zJ, zK, zL, zD, zE, zF, zM, zN, zO, zP, zQ, reduceCtorEq, not_true_eq_false, not_false_eq_true, t1, t2]) | (first | refine vIfE_of ?_ ?_ | refine vIfD_of ?_ ?_ | refine vIfQ_of ?_ ?_ | refine vIfV_of ?_ ?_) <;> intro _ | refine And.intro (by omega) ?_ | fail)
      have mx := h3.mem (i := j + s - 1) (by omega)
      have me := h3.mem (i := j + s) (by omega)
      rw [gx] at mx
      rw [ge] at me
      refine h3.store (i := j + s) (by omega) mx fun w4 h4 c4 => ?_
      repeat' (first | (simp (disch := omega) only [push_cast, ↓reduceIte, zA, zG, zB, zH, zI, zC, zJ, zK, zL, zD, zE, zF, zM, zN, zO, zP, zQ, reduceCtorEq, not_true_eq_false, not_false_eq_true, t2]) | (first | refine vIfE_of ?_ ?_ | refine vIfD_of ?_ ?_ | refine vIfQ_of ?_ ?_ | refine vIfV_of ?_ ?_) <;> intro _ | refine And.intro (by omega) ?_ | fail)
      refine h4.store (i := j + s - 1) (by simp only [List.length_set]; omega) me fun w5 h5 c5 => ?_
      have e6 : ((((X ++ (S1 ++ (T ++ [x]))) ++ e :: (T2 ++ Y)).set (j + s) x).set (j + s - 1) e) = (X ++ (S1 ++ T)) ++ e :: ((x :: T2) ++ Y) := by
        have := sw_near (X ++ (S1 ++ T)) (T2 ++ Y) x e
        unfold sw at this
        rw [← hcur2, show (X ++ (S1 ++ T)).length + 1 = j + s by rw [hXT']; omega, hXT', ge, gx] at this
        rw [this]
        simp
      rw [e6] at h5
      have e7 : (j : Int) + (s : Int) - 1 = (j : Int) + ((s - 1 : Nat) : Int) := by omega
      repeat' (first | (simp (disch := omega) only [push_cast, ↓reduceIte, zA, zG, zB, zH, zI, zC, zJ, zK, zL, zD, zE, zF, zM, zN, zO, zP, zQ, reduceCtorEq, not_true_eq_false, not_false_eq_true, e7]) | (first | refine vIfE_of ?_ ?_ | refine vIfD_of ?_ ?_ | refine vIfQ_of ?_ ?_ | refine vIfV_of ?_ ?_) <;> intro _ | refine And.intro (by omega) ?_ | refine drawn_q ?_ | fail)
      exact ⟨rfl, s - 1, by simp (disch := omega) only [push_cast, ↓reduceIte, zA, zG, zB, zH, zI, zC, zJ, zK, zL, zD, zE, zF, zM, zN, zO, zP, zQ, reduceCtorEq, not_true_eq_false, not_false_eq_true, e7], ⟨T, x :: T2, by rw [hTT]; simp, by simp at hT1; omega, h5, ((c2.trans (Chg.of_later l3)).trans c4).trans c5⟩, by dsimp only; omega⟩
    · have hT2 : T1 = [] := List.length_eq_zero_iff.1 (by omega)
      subst hT2
      rw [List.nil_append] at hTT
      subst hTT
      have hf : Mg B B' g c L X (U ++ [e]) Y w w2 := by
        refine ⟨S1 ++ e :: S2, ins_srt hs (by rw [← hUU]; exact sU) hS1 hS2, ?_, by simpa using h2, c2⟩
        rw [hUU]
        exact ins_stb hs hS2
      repeat' (first | (simp (disch := omega) only [push_cast, ↓reduceIte, zA, zG, zB, zH, zI, zC, zJ, zK, zL, zD, zE, zF, zM, zN, zO, zP, zQ, reduceCtorEq, not_true_eq_false, not_false_eq_true]) | (first | refine vIfE_of ?_ ?_ | refine vIfD_of ?_ ?_ | refine vIfQ_of ?_ ?_ | refine vIfV_of ?_ ?_) <;> intro _ | refine And.intro (by omega) ?_ | refine drawn_q ?_ | fail)
      exact hf
end Go.Proofs.Ythihbgpaoldbjaa
end
