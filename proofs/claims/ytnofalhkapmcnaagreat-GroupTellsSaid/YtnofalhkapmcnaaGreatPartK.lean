/- Groups merged (printed by mk25.py out of XSort3). -/
import Derived.ArgAppend
import Derived.Test.YtnofalhkapmcnaaGreatPartJ
set_option linter.all false
section
set_option linter.unusedSimpArgs false
namespace Go.Proofs.YtnofalhkapmcnaaGreat
open Go.Vc Go.Key Go.Stab
set_option maxRecDepth 100000
variable {kb : Nat} {od : Int}
def Mgg (B B' g c : Nat) (L X M Y : List (Ge kb od)) (w w' : World) : Prop := ∃ Z, Srt glt Z ∧ Stb glt M Z ∧ Sg w' B B' g c L (X ++ Z ++ Y) ∧ Chg w w' [g]
theorem gmergeA_c (B B' g c : Nat) (L X : List (Ge kb od)) (e : (Ge kb od)) (V Y : List (Ge kb od)) (a m b : Nat) (w : World) (h : Sg w B B' g c L (X ++ ([e] ++ V) ++ Y)) (hX : X.length = a) (hm : m = a + 1) (hV : V.length = b - m) (hmb : m < b) (sV : Srt glt V) :
    FnC Tryz.prog 135 #[.slice (some ⟨g, 0, none⟩) (X ++ ([e] ++ V) ++ Y).length c, .int .i64 (a : Int), .int .i64 (m : Int), .int .i64 (b : Int), (cmpG kb)] w fun r w' => Mgg B B' g c L X ([e] ++ V) Y w w' := by
  have hs := (glt_swo (kb := kb) (od := od))
  have hbig := h.big
  have hlen : (X ++ ([e] ++ V) ++ Y).length = b + Y.length := by simp; omega
  rw [hlen] at hbig
  have ha : (X ++ ([e] ++ V) ++ Y)[a]! = e := by rw [cur_UV _ _ _ (by omega) (by simp; omega), hX, Nat.sub_self]; rfl
  have gV : ∀ t, t < V.length → (X ++ ([e] ++ V) ++ Y)[m + t]! = V[t]! := fun t ht => by
    rw [cur_UV _ _ _ (by omega) (by simp; omega), hX]
    have : m + t - a = ([e] : List (Ge kb od)).length + t := by simp; omega
    rw [this, app_r ht]
  generalize hcur : X ++ ([e] ++ V) ++ Y = cur at *
  generalize hN : cur.length = N at *
  refine enter135 _ _ _ _ _ ?_
  unfold B135
  repeat' (first | (simp (disch := omega) only [push_cast, seval]) | refine iX ?_ ?_ <;> intros | refine aI (by omega) ?_ | refine dq ?_)
  refine vc_loop W135_0 (fun p : Nat × Nat => [(10, .int .i64 (p.1 : Int)), (11, .int .i64 (p.2 : Int))])
    (fun p w' => m ≤ p.1 ∧ p.1 ≤ p.2 ∧ p.2 ≤ b ∧ (p.1 = m ∨ glt cur[p.1 - 1]! cur[a]! = true) ∧ (p.2 = b ∨ glt cur[p.2]! cur[a]! = false) ∧ Later w w') (fun p => p.2 - p.1) (m, b) (by decide) ?_ ?_ ?_
  · simp (disch := omega) only [push_cast, seval]
  · exact ⟨by dsimp only; omega, by dsimp only; omega, by dsimp only; omega, .inl rfl, .inl rfl, Later.refl _⟩
  rintro ⟨i, j⟩ uu w1 ⟨q1, q2, q3, q4, q5, l1⟩
  dsimp only at q1 q2 q3 q4 q5
  have h1 := h.later l1
  by_cases hij : i < j
  · obtain ⟨r, hr⟩ : ∃ r : Nat, r = (i + j) / 2 := ⟨_, rfl⟩
    have e1 : ((i : Int) + (j : Int)) / 2 = (r : Int) := by omega
    have e2 : ((i : Int) + (j : Int)) / 2 ^ 1 = (r : Int) := by rw [Int.pow_succ]; simpa using e1
    have t1 : ((r : Int)).toNat = r := by omega
    have t2 : ((a : Int)).toNat = a := by omega
    have fr := h1.at (i := r) (by omega)
    have fa := h1.at (i := a) (by omega)
    have er := h1.elAt (i := r) (by omega)
    have ea := h1.elAt (i := a) (by omega)
    repeat' (first | (simp (disch := omega) only [push_cast, seval, e1, e2, t1, t2, fr, fa]) | refine iX ?_ ?_ <;> intros | refine aI (by omega) ?_ | refine dq ?_)
    refine QFn.of hb59 (v := .int .i64 (gcmp cur[r]! cur[a]!)) (fun w' hl => gcompare_c _ _ w' (er.is.later hl) (ea.is.later hl)) ?_
    have hcmp : glt cur[r]! cur[a]! = decide (gcmp cur[r]! cur[a]! < 0) := rfl
    by_cases hlt : gcmp cur[r]! cur[a]! < 0
    · repeat' (first | (simp (disch := omega) only [push_cast, seval]) | refine iX ?_ ?_ <;> intros | refine aI (by omega) ?_ | refine dq ?_)
      intro w2 l2
      repeat' (first | (simp (disch := omega) only [push_cast, seval]) | refine iX ?_ ?_ <;> intros | refine aI (by omega) ?_ | refine dq ?_)
      exact ⟨rfl, (r + 1, j), by simp (disch := omega) only [push_cast, seval], ⟨by dsimp only; omega, by dsimp only; omega, q3, .inr (by rw [show r + 1 - 1 = r by omega, hcmp]; exact decide_eq_true hlt), q5, l1.trans l2⟩, by dsimp only; omega⟩
    · repeat' (first | (simp (disch := omega) only [push_cast, seval]) | refine iX ?_ ?_ <;> intros | refine aI (by omega) ?_ | refine dq ?_)
      intro w2 l2
      repeat' (first | (simp (disch := omega) only [push_cast, seval]) | refine iX ?_ ?_ <;> intros | refine aI (by omega) ?_ | refine dq ?_)
      exact ⟨rfl, (i, r), by simp (disch := omega) only [push_cast, seval], ⟨q1, by dsimp only; omega, by dsimp only; omega, q4, .inr (by rw [hcmp]; exact decide_eq_false hlt), l1.trans l2⟩, by dsimp only; omega⟩
  · have hji : j = i := by omega
    subst hji
    obtain ⟨p, hp⟩ : ∃ p, p = j - m := ⟨_, rfl⟩
    have k1 : p = 0 ∨ glt V[p - 1]! e = true := by
      rcases q4 with h | h
      · left; omega
      · by_cases h0 : p = 0
        · exact .inl h0
        · right
          rw [← gV (p - 1) (by omega), ← ha]
          rwa [show m + (p - 1) = j - 1 by omega]
    have k2 : p = V.length ∨ glt V[p]! e = false := by
      rcases q5 with h | h
      · left; omega
      · by_cases h0 : p < V.length
        · right
          rw [← gV p h0, ← ha]
          rwa [show m + p = j by omega]
        · left; omega
    have hV1 := pref_lt hs sV (by omega) k1
    have hV2 := head_at (fun x => glt x e = false) (by omega) k2
    have hVV : V = V.take p ++ V.drop p := (List.take_append_drop _ _).symm
    have hp1 : (V.take p).length = p := by rw [List.length_take]; omega
    generalize V.take p = V1 at *
    generalize V.drop p = V2 at *
    repeat' (first | (simp (disch := omega) only [push_cast, seval]) | refine iX ?_ ?_ <;> intros | refine aI (by omega) ?_ | refine dq ?_)
    refine vc_loop W135_1 (fun s : Nat => [(13, .int .i64 ((a : Int) + (s : Int)))])
      (fun s w' => s ≤ p ∧ ∃ T1 T2, V1 = T1 ++ T2 ∧ T1.length = s ∧ Sg w' B B' g c L ((X ++ T1) ++ e :: (T2 ++ (V2 ++ Y))) ∧ Chg w w' [g]) (fun s => p - s) 0 (by decide) ?_ ?_ ?_
    · simp (disch := omega) only [push_cast, seval, Int.add_zero]
    · refine ⟨by omega, [], V1, rfl, rfl, ?_, Chg.of_later l1⟩
      rw [← hcur, hVV] at h1
      simpa using h1
    rintro s uu2 w2 ⟨hsp, T1, T2, hTT, hT1, h2, c2⟩
    have hXT : (X ++ T1).length = a + s := by rw [List.length_append]; omega
    have hN2 : ((X ++ T1) ++ e :: (T2 ++ (V2 ++ Y))).length = N := by
      rw [← hN, ← hcur, hVV, hTT]
      simp only [List.length_append, List.length_cons, List.length_nil]
      omega
    have hTl := congrArg List.length hTT
    rw [List.length_append] at hTl
    by_cases hlt : s < p
    · obtain ⟨x, T, rfl⟩ : ∃ x T, T2 = x :: T := by
        cases T2 with
        | nil => simp at hTl; omega
        | cons x T => exact ⟨x, T, rfl⟩
      have ge : ((X ++ T1) ++ e :: (x :: T ++ (V2 ++ Y)))[a + s]! = e := by rw [← hXT]; exact get_app _ _ _
      have hcur2 : (X ++ T1) ++ e :: (x :: T ++ (V2 ++ Y)) = ((X ++ T1) ++ [e]) ++ x :: (T ++ (V2 ++ Y)) := by simp
      have gx : ((X ++ T1) ++ e :: (x :: T ++ (V2 ++ Y)))[a + s + 1]! = x := by
        rw [hcur2, show a + s + 1 = ((X ++ T1) ++ [e]).length by rw [List.length_append, hXT]; rfl]; exact get_app _ _ _
      have hN2' : a + s + 1 < ((X ++ T1) ++ e :: (x :: T ++ (V2 ++ Y))).length := by
        rw [hcur2]; simp only [List.length_append, List.length_cons]; omega
      have t1 : ((a : Int) + (s : Int)).toNat = a + s := by omega
      have t2 : ((a : Int) + (s : Int) + 1).toNat = a + s + 1 := by omega
      have fe := h2.at (i := a + s) (by omega)
      have fx := h2.at (i := a + s + 1) (by omega)
      rw [ge] at fe
      rw [gx] at fx
      repeat' (first | (simp (disch := omega) only [push_cast, seval]) | refine iX ?_ ?_ <;> intros | refine aI (by omega) ?_ | fail)
      refine drawnS_k 15 ?_
      repeat' (first | (simp (disch := omega) only [push_cast, seval, t1, t2, fe, fx]) | refine iX ?_ ?_ <;> intros | refine aI (by omega) ?_ | fail)
      refine ⟨rfl, fun w3 l3 => ⟨by simp (disch := omega) only [push_cast, seval, implies_true, and_self], ?_⟩⟩
      have h3 := h2.later l3
      repeat' (first | (simp (disch := omega) only [push_cast, seval, t1, t2]) | refine iX ?_ ?_ <;> intros | refine aI (by omega) ?_ | fail)
      have mx := h3.mem (i := a + s + 1) (by omega)
      have me := h3.mem (i := a + s) (by omega)
      rw [gx] at mx
      rw [ge] at me
      refine h3.store (i := a + s) (by omega) mx fun w4 h4 c4 => ?_
      repeat' (first | (simp (disch := omega) only [push_cast, seval, t2]) | refine iX ?_ ?_ <;> intros | refine aI (by omega) ?_ | fail)
      refine h4.store (i := a + s + 1) (by simp only [List.length_set]; omega) me fun w5 h5 c5 => ?_
      have e6 : ((((X ++ T1) ++ e :: (x :: T ++ (V2 ++ Y))).set (a + s) x).set (a + s + 1) e) = (X ++ (T1 ++ [x])) ++ e :: (T ++ (V2 ++ Y)) := by
        have := sw_app (X ++ T1) [] (T ++ (V2 ++ Y)) e x
        unfold sw at this
        rw [show (X ++ T1).length + 1 + ([] : List (Ge kb od)).length = a + s + 1 by rw [hXT]; rfl, hXT] at this
        have hcc : (X ++ T1) ++ e :: ([] ++ x :: (T ++ (V2 ++ Y))) = (X ++ T1) ++ e :: (x :: T ++ (V2 ++ Y)) := by simp
        rw [hcc, ge, gx] at this
        rw [this]
        simp
      rw [e6] at h5
      have e7 : (a : Int) + (s : Int) + 1 = (a : Int) + ((s : Int) + 1) := by omega
      repeat' (first | (simp (disch := omega) only [push_cast, seval, e7]) | refine iX ?_ ?_ <;> intros | refine aI (by omega) ?_ | refine dq ?_)
      exact ⟨rfl, s + 1, by simp (disch := omega) only [push_cast, seval, e7], ⟨by omega, T1 ++ [x], T, by rw [hTT]; simp, by simp [hT1], h5, ((c2.trans (Chg.of_later l3)).trans c4).trans c5⟩, by dsimp only; omega⟩
    · have hT2 : T2 = [] := List.length_eq_zero_iff.1 (by omega)
      subst hT2
      rw [List.append_nil] at hTT
      subst hTT
      have hf : Mgg B B' g c L X ([e] ++ V) Y w w2 := by
        refine ⟨V1 ++ e :: V2, front_srt hs (by rw [← hVV]; exact sV) hV1 hV2, ?_, by simpa using h2, c2⟩
        rw [hVV]
        exact front_stb hs hV1
      repeat' (first | (simp (disch := omega) only [push_cast, seval]) | refine iX ?_ ?_ <;> intros | refine aI (by omega) ?_ | refine dq ?_)
      exact hf
theorem gmergeB_c (B B' g c : Nat) (L X U : List (Ge kb od)) (e : (Ge kb od)) (Y : List (Ge kb od)) (a m b : Nat) (w : World) (h : Sg w B B' g c L (X ++ (U ++ [e]) ++ Y)) (hX : X.length = a) (hU : U.length = m - a) (ham : a + 1 < m) (hb : b = m + 1) (sU : Srt glt U) :
    FnC Tryz.prog 135 #[.slice (some ⟨g, 0, none⟩) (X ++ (U ++ [e]) ++ Y).length c, .int .i64 (a : Int), .int .i64 (m : Int), .int .i64 (b : Int), (cmpG kb)] w fun r w' => Mgg B B' g c L X (U ++ [e]) Y w w' := by
  have hs := (glt_swo (kb := kb) (od := od))
  have hbig := h.big
  have hlen : (X ++ (U ++ [e]) ++ Y).length = b + Y.length := by simp; omega
  rw [hlen] at hbig
  have hme : (X ++ (U ++ [e]) ++ Y)[m]! = e := by
    rw [cur_UV _ _ _ (by omega) (by simp; omega), hX]
    have : m - a = U.length + 0 := by omega
    rw [this, app_r (by simp)]; rfl
  have gU : ∀ t, t < U.length → (X ++ (U ++ [e]) ++ Y)[a + t]! = U[t]! := fun t ht => by
    rw [cur_UV _ _ _ (by omega) (by simp; omega), hX, show a + t - a = t by omega, app_l ht]
  generalize hcur : X ++ (U ++ [e]) ++ Y = cur at *
  generalize hN : cur.length = N at *
  refine enter135 _ _ _ _ _ ?_
  unfold B135
  repeat' (first | (simp (disch := omega) only [push_cast, seval]) | refine iX ?_ ?_ <;> intros | refine aI (by omega) ?_ | refine dq ?_)
  refine vc_loop W135_2 (fun p : Nat × Nat => [(14, .int .i64 (p.1 : Int)), (15, .int .i64 (p.2 : Int))])
    (fun p w' => a ≤ p.1 ∧ p.1 ≤ p.2 ∧ p.2 ≤ m ∧ (p.1 = a ∨ glt cur[m]! cur[p.1 - 1]! = false) ∧ (p.2 = m ∨ glt cur[m]! cur[p.2]! = true) ∧ Later w w') (fun p => p.2 - p.1) (a, m) (by decide) ?_ ?_ ?_
  · simp (disch := omega) only [push_cast, seval]
  · exact ⟨by dsimp only; omega, by dsimp only; omega, by dsimp only; omega, .inl rfl, .inl rfl, Later.refl _⟩
  rintro ⟨i, j⟩ uu w1 ⟨q1, q2, q3, q4, q5, l1⟩
  dsimp only at q1 q2 q3 q4 q5
  have h1 := h.later l1
  by_cases hij : i < j
  · obtain ⟨r, hr⟩ : ∃ r : Nat, r = (i + j) / 2 := ⟨_, rfl⟩
    have e1 : ((i : Int) + (j : Int)) / 2 = (r : Int) := by omega
    have e2 : ((i : Int) + (j : Int)) / 2 ^ 1 = (r : Int) := by rw [Int.pow_succ]; simpa using e1
    have t1 : ((r : Int)).toNat = r := by omega
    have t2 : ((m : Int)).toNat = m := by omega
    have fr := h1.at (i := r) (by omega)
    have fa := h1.at (i := m) (by omega)
    have er := h1.elAt (i := r) (by omega)
    have ea := h1.elAt (i := m) (by omega)
    repeat' (first | (simp (disch := omega) only [push_cast, seval, e1, e2, t1, t2, fr, fa]) | refine iX ?_ ?_ <;> intros | refine aI (by omega) ?_ | refine dq ?_)
    refine QFn.of hb59 (v := .int .i64 (gcmp cur[m]! cur[r]!)) (fun w' hl => gcompare_c _ _ w' (ea.is.later hl) (er.is.later hl)) ?_
    have hcmp : glt cur[m]! cur[r]! = decide (gcmp cur[m]! cur[r]! < 0) := rfl
    by_cases hlt : gcmp cur[m]! cur[r]! < 0
    · repeat' (first | (simp (disch := omega) only [push_cast, seval]) | refine iX ?_ ?_ <;> intros | refine aI (by omega) ?_ | refine dq ?_)
      intro w2 l2
      repeat' (first | (simp (disch := omega) only [push_cast, seval]) | refine iX ?_ ?_ <;> intros | refine aI (by omega) ?_ | refine dq ?_)
      exact ⟨rfl, (i, r), by simp (disch := omega) only [push_cast, seval], ⟨q1, by dsimp only; omega, by dsimp only; omega, q4, .inr (by rw [hcmp]; exact decide_eq_true hlt), l1.trans l2⟩, by dsimp only; omega⟩
    · repeat' (first | (simp (disch := omega) only [push_cast, seval]) | refine iX ?_ ?_ <;> intros | refine aI (by omega) ?_ | refine dq ?_)
      intro w2 l2
      repeat' (first | (simp (disch := omega) only [push_cast, seval]) | refine iX ?_ ?_ <;> intros | refine aI (by omega) ?_ | refine dq ?_)
      exact ⟨rfl, (r + 1, j), by simp (disch := omega) only [push_cast, seval], ⟨by dsimp only; omega, by dsimp only; omega, q3, .inr (by rw [show r + 1 - 1 = r by omega, hcmp]; exact decide_eq_false hlt), q5, l1.trans l2⟩, by dsimp only; omega⟩
  · have hji : j = i := by omega
    subst hji
    obtain ⟨p, hp⟩ : ∃ p, p = j - a := ⟨_, rfl⟩
    have k1 : p = 0 ∨ glt e U[p - 1]! = false := by
      rcases q4 with h | h
      · left; omega
      · by_cases h0 : p = 0
        · exact .inl h0
        · right
          rw [← gU (p - 1) (by omega), ← hme]
          rwa [show a + (p - 1) = j - 1 by omega]
    have k2 : p = U.length ∨ glt e U[p]! = true := by
      rcases q5 with h | h
      · left; omega
      · by_cases h0 : p < U.length
        · right
          rw [← gU p h0, ← hme]
          rwa [show a + p = j by omega]
        · left; omega
    have hS1 := last_at (fun x => glt e x = false) (by omega) k1
    have hS2 := suf_lt hs sU k2
    have hUU : U = U.take p ++ U.drop p := (List.take_append_drop _ _).symm
    have hp1 : (U.take p).length = p := by rw [List.length_take]; omega
    have hp2 : (U.drop p).length = m - j := by rw [List.length_drop]; omega
    generalize U.take p = S1 at *
    generalize U.drop p = S2 at *
    repeat' (first | (simp (disch := omega) only [push_cast, seval]) | refine iX ?_ ?_ <;> intros | refine aI (by omega) ?_ | refine dq ?_)
    refine vc_loop W135_3 (fun s : Nat => [(17, .int .i64 ((j : Int) + (s : Int)))])
      (fun s w' => ∃ T1 T2, S2 = T1 ++ T2 ∧ T1.length = s ∧ Sg w' B B' g c L ((X ++ (S1 ++ T1)) ++ e :: (T2 ++ Y)) ∧ Chg w w' [g]) (fun s => s) (m - j) (by decide) ?_ ?_ ?_
    · have e0 : (j : Int) + ((m : Int) - (j : Int)) = (m : Int) := by omega
      simp (disch := omega) only [push_cast, seval, e0]
    · refine ⟨S2, [], by simp, hp2, ?_, Chg.of_later l1⟩
      rw [← hcur, hUU] at h1
      simpa using h1
    rintro s uu2 w2 ⟨T1, T2, hTT, hT1, h2, c2⟩
    have hXT : (X ++ (S1 ++ T1)).length = j + s := by rw [List.length_append, List.length_append]; omega
    have hN2 : ((X ++ (S1 ++ T1)) ++ e :: (T2 ++ Y)).length = N := by
      rw [← hN, ← hcur, hUU, hTT]
      simp only [List.length_append, List.length_cons, List.length_nil]
      omega
    have hTl := congrArg List.length hTT
    rw [List.length_append] at hTl
    by_cases hlt : 0 < s
    · obtain ⟨T, x, rfl⟩ : ∃ T x, T1 = T ++ [x] := ⟨T1.dropLast, T1.getLast (by intro h; rw [h] at hT1; simp at hT1; omega), (List.dropLast_concat_getLast _).symm⟩
      have hcur2 : (X ++ (S1 ++ (T ++ [x]))) ++ e :: (T2 ++ Y) = (X ++ (S1 ++ T)) ++ x :: (e :: (T2 ++ Y)) := by simp
      have hXT' : (X ++ (S1 ++ T)).length = j + s - 1 := by simp only [List.length_append, List.length_cons, List.length_nil] at hXT ⊢; omega
      have ge : ((X ++ (S1 ++ (T ++ [x]))) ++ e :: (T2 ++ Y))[j + s]! = e := by rw [← hXT]; exact get_app _ _ _
      have gx : ((X ++ (S1 ++ (T ++ [x]))) ++ e :: (T2 ++ Y))[j + s - 1]! = x := by rw [hcur2, ← hXT']; exact get_app _ _ _
      have hN2' : j + s < ((X ++ (S1 ++ (T ++ [x]))) ++ e :: (T2 ++ Y)).length := by
        rw [List.length_append, hXT]; simp
      have t1 : ((j : Int) + (s : Int)).toNat = j + s := by omega
      have t2 : ((j : Int) + (s : Int) - 1).toNat = j + s - 1 := by omega
      have fe := h2.at (i := j + s) (by omega)
      have fx := h2.at (i := j + s - 1) (by omega)
      rw [ge] at fe
      rw [gx] at fx
      repeat' (first | (simp (disch := omega) only [push_cast, seval]) | refine iX ?_ ?_ <;> intros | refine aI (by omega) ?_ | fail)
      refine drawnS_k 15 ?_
      repeat' (first | (simp (disch := omega) only [push_cast, seval, t1, t2, fe, fx]) | refine iX ?_ ?_ <;> intros | refine aI (by omega) ?_ | fail)
      refine ⟨rfl, fun w3 l3 => ⟨by simp (disch := omega) only [push_cast, seval, implies_true, and_self], ?_⟩⟩
      have h3 := h2.later l3
      repeat' (first | (simp (disch := omega) only [push_cast, seval, t1, t2]) | refine iX ?_ ?_ <;> intros | refine aI (by omega) ?_ | fail)
      have mx := h3.mem (i := j + s - 1) (by omega)
      have me := h3.mem (i := j + s) (by omega)
      rw [gx] at mx
      rw [ge] at me
      refine h3.store (i := j + s) (by omega) mx fun w4 h4 c4 => ?_
      repeat' (first | (simp (disch := omega) only [push_cast, seval, t2]) | refine iX ?_ ?_ <;> intros | refine aI (by omega) ?_ | fail)
      refine h4.store (i := j + s - 1) (by simp only [List.length_set]; omega) me fun w5 h5 c5 => ?_
      have e6 : ((((X ++ (S1 ++ (T ++ [x]))) ++ e :: (T2 ++ Y)).set (j + s) x).set (j + s - 1) e) = (X ++ (S1 ++ T)) ++ e :: ((x :: T2) ++ Y) := by
        have := gsw_near (X ++ (S1 ++ T)) (T2 ++ Y) x e
        unfold sw at this
        rw [← hcur2, show (X ++ (S1 ++ T)).length + 1 = j + s by rw [hXT']; omega, hXT', ge, gx] at this
        rw [this]
        simp
      rw [e6] at h5
      have e7 : (j : Int) + (s : Int) - 1 = (j : Int) + ((s - 1 : Nat) : Int) := by omega
      repeat' (first | (simp (disch := omega) only [push_cast, seval, e7]) | refine iX ?_ ?_ <;> intros | refine aI (by omega) ?_ | refine dq ?_)
      exact ⟨rfl, s - 1, by simp (disch := omega) only [push_cast, seval, e7], ⟨T, x :: T2, by rw [hTT]; simp, by simp at hT1; omega, h5, ((c2.trans (Chg.of_later l3)).trans c4).trans c5⟩, by dsimp only; omega⟩
    · have hT2 : T1 = [] := List.length_eq_zero_iff.1 (by omega)
      subst hT2
      rw [List.nil_append] at hTT
      subst hTT
      have hf : Mgg B B' g c L X (U ++ [e]) Y w w2 := by
        refine ⟨S1 ++ e :: S2, ins_srt hs (by rw [← hUU]; exact sU) hS1 hS2, ?_, by simpa using h2, c2⟩
        rw [hUU]
        exact ins_stb hs hS2
      repeat' (first | (simp (disch := omega) only [push_cast, seval]) | refine iX ?_ ?_ <;> intros | refine aI (by omega) ?_ | refine dq ?_)
      exact hf
end Go.Proofs.YtnofalhkapmcnaaGreat
end
section
set_option linter.unusedSimpArgs false
namespace Go.Proofs.YtnofalhkapmcnaaGreat
open Go.Vc Go.Key Go.Stab
set_option maxRecDepth 100000
variable {kb : Nat} {od : Int}
abbrev gsymF : FuncId := 135
def GSymOk (kb : Nat) (od : Int) (D : Nat) : Prop := ∀ (B B' g c : Nat) (L X U V Y : List (Ge kb od)) (a m b : Nat) (w : World), b - a = D → Sg w B B' g c L (X ++ (U ++ V) ++ Y) → X.length = a → U.length = m - a → V.length = b - m → a < m → m < b → Srt glt U → Srt glt V →
    FnC Tryz.prog 135 #[.slice (some ⟨g, 0, none⟩) (X ++ (U ++ V) ++ Y).length c, .int .i64 (a : Int), .int .i64 (m : Int), .int .i64 (b : Int), (cmpG kb)] w fun r w' => Mgg B B' g c L X (U ++ V) Y w w'
set_option maxHeartbeats 4000000 in
theorem gsymMergeLo_c (D : Nat) (ih : ∀ d, d < D → GSymOk kb od d) (B B' g c : Nat) (L X U V Y : List (Ge kb od)) (a m b : Nat) (w : World) (hD : b - a = D) (h : Sg w B B' g c L (X ++ (U ++ V) ++ Y)) (hX : X.length = a) (hU : U.length = m - a) (hV : V.length = b - m) (ham : a < m) (hmb : m < b) (sU : Srt glt U) (sV : Srt glt V) (hmm0 : (a + b) / 2 < m) (hA : ¬ m = a + 1) (hB : ¬ b = m + 1) :
    FnC Tryz.prog 135 #[.slice (some ⟨g, 0, none⟩) (X ++ (U ++ V) ++ Y).length c, .int .i64 (a : Int), .int .i64 (m : Int), .int .i64 (b : Int), (cmpG kb)] w fun r w' => Mgg B B' g c L X (U ++ V) Y w w' := by
  have hs := (glt_swo (kb := kb) (od := od))
  have hbig := h.big
  have hlen : (X ++ (U ++ V) ++ Y).length = b + Y.length := by simp only [List.length_append]; omega
  rw [hlen] at hbig
  have gM : ∀ i, a ≤ i → i < b → (X ++ (U ++ V) ++ Y)[i]! = (U ++ V)[i - a]! := fun i h1 h2 => by
    rw [cur_UV _ _ _ (by omega) (by simp only [List.length_append]; omega), hX]
  generalize hcur : X ++ (U ++ V) ++ Y = cur at *
  generalize hN : cur.length = N at *
  obtain ⟨mid, hmid⟩ : ∃ mid, mid = (a + b) / 2 := ⟨_, rfl⟩
  obtain ⟨p1, p2, p3, p4, p5, p6⟩ := sym_in ham hmb
  obtain ⟨S0, hS0⟩ : ∃ S0, S0 = s0 a m b := ⟨_, rfl⟩
  obtain ⟨R0, hR0⟩ : ∃ R0, R0 = r0 a m b := ⟨_, rfl⟩
  have hS0' : S0 = if mid < m then mid + m - b else a := by rw [hS0, hmid]; rfl
  have hR0' : R0 = if mid < m then mid else m := by rw [hR0, hmid]; rfl
  have p2' : S0 ≤ R0 := by rw [hS0, hR0]; exact p2
  have p1' : a ≤ S0 := by rw [hS0]; exact p1
  have p3' : R0 ≤ m := by rw [hR0]; exact p3
  have p4' : R0 ≤ mid := by rw [hR0, hmid]; exact p4
  have p5' : ∀ c, S0 ≤ c → c < R0 → m ≤ mid + m - 1 - c ∧ mid + m - 1 - c < b := by rw [hS0, hR0, hmid]; exact p5
  have p6' : mid + m - S0 ≤ b := by rw [hS0, hmid]; exact p6
  clear p1 p2 p3 p4 p5 p6
  have e1 : ((a : Int) + (b : Int)) / 2 = (mid : Int) := by omega
  have e2 : ((a : Int) + (b : Int)) / 2 ^ 1 = (mid : Int) := by rw [Int.pow_succ]; simpa using e1
  refine enter135 _ _ _ _ _ ?_
  unfold B135
  have hmm : mid < m := by omega
  · rw [if_pos hmm] at hS0' hR0'
    have e3 : (mid : Int) + (m : Int) - (b : Int) = (S0 : Int) := by omega
    have e4 : (R0 : Int) = (mid : Int) := by omega
    repeat' (first | (simp (disch := omega) only [push_cast, seval, e1, e2]) | refine iX ?_ ?_ <;> intros | refine aI (by omega) ?_ | refine dq ?_)
    refine vc_loop W135_4 (fun p : Nat × Nat => [(20, .int .i64 (p.1 : Int)), (21, .int .i64 (p.2 : Int))])
      (fun p w' => S0 ≤ p.1 ∧ p.1 ≤ p.2 ∧ p.2 ≤ R0 ∧ (p.1 = S0 ∨ glt cur[mid + m - p.1]! cur[p.1 - 1]! = false) ∧ (p.2 = R0 ∨ glt cur[mid + m - 1 - p.2]! cur[p.2]! = true) ∧ Later w w') (fun p => p.2 - p.1) (S0, R0) (by decide) ?_ ?_ ?_
    · simp (disch := omega) only [push_cast, seval, e3, e4]
    · exact ⟨Nat.le_refl _, p2', Nat.le_refl _, .inl rfl, .inl rfl, Later.refl _⟩
    rintro ⟨s, t⟩ uu w1 ⟨q1, q2, q3, q4, q5, l1⟩
    dsimp only at q1 q2 q3 q4 q5
    have h1 := h.later l1
    by_cases hst : s < t
    · obtain ⟨r, hr⟩ : ∃ r : Nat, r = (s + t) / 2 := ⟨_, rfl⟩
      have f1 : ((s : Int) + (t : Int)) / 2 = (r : Int) := by omega
      have f2 : ((s : Int) + (t : Int)) / 2 ^ 1 = (r : Int) := by rw [Int.pow_succ]; simpa using f1
      obtain ⟨b1, b2⟩ := p5' r (by omega) (by omega)
      have t1 : ((r : Int)).toNat = r := by omega
      have t2 : ((mid : Int) + (m : Int) - 1 - (r : Int)).toNat = mid + m - 1 - r := by omega
      have fr := h1.at (i := r) (by omega)
      have fa := h1.at (i := mid + m - 1 - r) (by omega)
      have er := h1.elAt (i := r) (by omega)
      have ea := h1.elAt (i := mid + m - 1 - r) (by omega)
      repeat' (first | (simp (disch := omega) only [push_cast, seval, f1, f2, t1, t2, fr, fa]) | refine iX ?_ ?_ <;> intros | refine aI (by omega) ?_ | refine dq ?_)
      refine QFn.of hb59 (v := .int .i64 (gcmp cur[mid + m - 1 - r]! cur[r]!)) (fun w' hl => gcompare_c _ _ w' (ea.is.later hl) (er.is.later hl)) ?_
      have hcmp : glt cur[mid + m - 1 - r]! cur[r]! = decide (gcmp cur[mid + m - 1 - r]! cur[r]! < 0) := rfl
      by_cases hlt : gcmp cur[mid + m - 1 - r]! cur[r]! < 0
      · repeat' (first | (simp (disch := omega) only [push_cast, seval]) | refine iX ?_ ?_ <;> intros | refine aI (by omega) ?_ | refine dq ?_)
        intro w2 l2
        repeat' (first | (simp (disch := omega) only [push_cast, seval]) | refine iX ?_ ?_ <;> intros | refine aI (by omega) ?_ | refine dq ?_)
        exact ⟨rfl, (s, r), by simp (disch := omega) only [push_cast, seval], ⟨q1, by dsimp only; omega, by dsimp only; omega, q4, .inr (by rw [hcmp]; exact decide_eq_true hlt), l1.trans l2⟩, by dsimp only; omega⟩
      · repeat' (first | (simp (disch := omega) only [push_cast, seval]) | refine iX ?_ ?_ <;> intros | refine aI (by omega) ?_ | refine dq ?_)
        intro w2 l2
        repeat' (first | (simp (disch := omega) only [push_cast, seval]) | refine iX ?_ ?_ <;> intros | refine aI (by omega) ?_ | refine dq ?_)
        exact ⟨rfl, (r + 1, t), by simp (disch := omega) only [push_cast, seval], ⟨by dsimp only; omega, by dsimp only; omega, q3, .inr (by rw [show r + 1 - 1 = r by omega, show mid + m - (r + 1) = mid + m - 1 - r by omega, hcmp]; exact decide_eq_false hlt), q5, l1.trans l2⟩, by dsimp only; omega⟩
    · have hts : t = s := by omega
      subst hts
      have k1 : t = S0 ∨ glt (U ++ V)[mid + m - t - a]! (U ++ V)[t - 1 - a]! = false := by
        rcases q4 with h | h
        · exact .inl h
        · by_cases h0 : t = S0
          · exact .inl h0
          · obtain ⟨b1, b2⟩ := p5' (t - 1) (by omega) (by omega)
            right
            rw [← gM (mid + m - t) (by omega) (by omega), ← gM (t - 1) (by omega) (by omega)]
            exact h
      have k2 : t = R0 ∨ glt (U ++ V)[mid + m - 1 - t - a]! (U ++ V)[t - a]! = true := by
        rcases q5 with h | h
        · exact .inl h
        · by_cases h0 : t = R0
          · exact .inl h0
          · obtain ⟨b1, b2⟩ := p5' t (by omega) (by omega)
            right
            rw [← gM (mid + m - 1 - t) (by omega) (by omega), ← gM t (by omega) (by omega)]
            exact h
      obtain ⟨huv, hAB⟩ := sym_facts hs hU hV ham hmb sU sV (by rw [← hS0]; exact q1) (by rw [← hR0]; exact q3) (by rw [← hS0, ← hmid]; exact k1) (by rw [← hR0, ← hmid]; exact k2) (fun h => .inr (sym_r h))
      rw [← hmid] at huv hAB
      obtain ⟨E, hE⟩ : ∃ E, E = mid + m - t := ⟨_, rfl⟩
      have eE : (mid : Int) + (m : Int) - (t : Int) = (E : Int) := by omega
      have hEb : E ≤ b := by omega
      rw [← hE] at huv hAB
      have hUU : U = U.take (t - a) ++ U.drop (t - a) := (List.take_append_drop _ _).symm
      have hVV : V = V.take (E - m) ++ V.drop (E - m) := (List.take_append_drop _ _).symm
      have n1 : (U.take (t - a)).length = t - a := by rw [List.length_take]; omega
      have n2 : (U.drop (t - a)).length = m - t := by rw [List.length_drop]; omega
      have n3 : (V.take (E - m)).length = E - m := by rw [List.length_take]; omega
      have n4 : (V.drop (E - m)).length = b - E := by rw [List.length_drop]; omega
      generalize U.take (t - a) = A0 at *
      generalize U.drop (t - a) = u at *
      generalize V.take (E - m) = v at *
      generalize V.drop (E - m) = B0 at *
      rw [hUU] at sU
      rw [hVV] at sV
      have hcl : X ++ (A0 ++ u ++ (v ++ B0)) ++ Y = cur := by rw [← hUU, ← hVV]; exact hcur
      obtain ⟨sA, su, _⟩ := Srt.append.1 sU
      obtain ⟨sv, sB, _⟩ := Srt.append.1 sV
      have fin : ∀ w' Lz Rz, Srt glt Lz → Srt glt Rz → Stb glt (A0 ++ v) Lz → Stb glt (u ++ B0) Rz → Sg w' B B' g c L (X ++ Lz ++ (Rz ++ Y)) → Chg w w' [g] → Mgg B B' g c L X (U ++ V) Y w w' := by
        intro w' Lz Rz z1 z2 z3 z4 z5 z6
        obtain ⟨y1, y2⟩ := halves hs sU sV huv hAB z3 z4 z1 z2
        refine ⟨Lz ++ Rz, y1, ?_, by simpa using z5, z6⟩
        rw [hUU, hVV]; exact y2
      have rotH : 0 < u.length → 0 < v.length → FnC Tryz.prog 147 #[.slice (some ⟨g, 0, none⟩) N c, .int .i64 (t : Int), .int .i64 (m : Int), .int .i64 (E : Int), (cmpG kb)] w1 fun r w' => Sg w' B B' g c L (X ++ A0 ++ v ++ u ++ (B0 ++ Y)) ∧ Chg w1 w' [g] := by
        intro hu hv
        have hin : Sg w1 B B' g c L (X ++ A0 ++ u ++ v ++ (B0 ++ Y)) := by
          have := h1
          rw [← hcl] at this
          simpa using this
        have := grotate_c B B' g c L (X ++ A0) u v (B0 ++ Y) w1 hin hu hv
        have a0 : (X ++ A0 ++ u ++ v ++ (B0 ++ Y)).length = N := by rw [← hN, ← hcl]; simp only [List.length_append]; omega
        have a1 : (X ++ A0).length = t := by rw [List.length_append]; omega
        have a2 : (X ++ A0).length + u.length = m := by omega
        have a3 : (X ++ A0).length + u.length + v.length = E := by omega
        rw [a0, a3, a2, a1] at this
        exact this
      have same : u = [] ∨ v = [] → ∀ w', Sg w' B B' g c L cur → Sg w' B B' g c L (X ++ A0 ++ v ++ u ++ (B0 ++ Y)) := by
        intro huv w' hw
        rw [← hcl] at hw
        rcases huv with rfl | rfl
        · simpa using hw
        · simpa using hw
      have mL : ∀ w2, Sg w2 B B' g c L (X ++ A0 ++ v ++ u ++ (B0 ++ Y)) → a < t → t < mid → FnC Tryz.prog gsymF #[.slice (some ⟨g, 0, none⟩) N c, .int .i64 (a : Int), .int .i64 (t : Int), .int .i64 (mid : Int), (cmpG kb)] w2 fun r w' => Mgg B B' g c L X (A0 ++ v) (u ++ (B0 ++ Y)) w2 w' := by
        intro w2 h2 z1 z2
        have := ih (mid - a) (by omega) B B' g c L X A0 v (u ++ (B0 ++ Y)) a t mid w2 rfl (by simpa using h2) hX n1 (by omega) z1 z2 sA sv
        have a0 : (X ++ (A0 ++ v) ++ (u ++ (B0 ++ Y))).length = N := by rw [← hN, ← hcl]; simp only [List.length_append]; omega
        rw [a0] at this
        exact this
      have noL : ¬ (a < t ∧ t < mid) → ∃ Lz, Srt glt Lz ∧ Stb glt (A0 ++ v) Lz ∧ Lz = A0 ++ v := by
        intro hno
        by_cases ht : a < t
        · have : v = [] := List.length_eq_zero_iff.1 (by omega)
          subst this
          exact ⟨A0 ++ [], by simpa using sA, Stb.refl _, rfl⟩
        · have : A0 = [] := List.length_eq_zero_iff.1 (by omega)
          subst this
          exact ⟨[] ++ v, by simpa using sv, Stb.refl _, rfl⟩
      have mR : ∀ w3 Lz, Stb glt (A0 ++ v) Lz → Sg w3 B B' g c L (X ++ Lz ++ (u ++ (B0 ++ Y))) → mid < E → E < b → FnC Tryz.prog gsymF #[.slice (some ⟨g, 0, none⟩) N c, .int .i64 (mid : Int), .int .i64 (E : Int), .int .i64 (b : Int), (cmpG kb)] w3 fun r w' => Mgg B B' g c L (X ++ Lz) (u ++ B0) Y w3 w' := by
        intro w3 Lz hz h3 z1 z2
        have hzl := hz.1
        rw [List.length_append] at hzl
        have hXL : (X ++ Lz).length = mid := by rw [List.length_append]; omega
        have := ih (b - mid) (by omega) B B' g c L (X ++ Lz) u B0 Y mid E b w3 rfl (by simpa using h3) hXL (by omega) n4 z1 z2 su sB
        have a0 : (X ++ Lz ++ (u ++ B0) ++ Y).length = N := by rw [← hN, ← hcl]; simp only [List.length_append]; omega
        rw [a0] at this
        exact this
      have noR : ¬ (mid < E ∧ E < b) → Srt glt (u ++ B0) := by
        intro hno
        by_cases ht : mid < E
        · have : B0 = [] := List.length_eq_zero_iff.1 (by omega)
          subst this
          simpa using su
        · have : u = [] := List.length_eq_zero_iff.1 (by omega)
          subst this
          simpa using sB
      have c01 : Chg w w1 [g] := Chg.of_later l1
      have m2 := n2
      have m3 : v.length = mid - t := by omega
      have nu : t ≤ m := by omega
      have nv : t ≤ mid := by omega
      have namid : a < mid := by omega
      clear huv hAB hUU hVV n1 n3 n4 sU sV sA su sv sB k1 k2 q4 q5 gM hs hcl ih p1' p2' p3' p4' p5' p6' hS0 hR0 hS0' hR0' e1 e2 e3 e4 hmid hst q1 q2 q3 hA hB hX hU hV hlen h hD
      have pp : t < m := by omega
      by_cases qq : t < mid
      · repeat' (first | (simp (disch := omega) only [push_cast, seval, eE]) | refine iX ?_ ?_ <;> intros | refine aI (by omega) ?_ | refine dq ?_)
        refine (rotH (by omega) (by omega)).mono ?_
        rintro _ w2 ⟨h2, c2⟩
        have c02 := c01.trans c2
        clear rotH same
        by_cases ll : a < t
        · repeat' (first | (simp (disch := omega) only [push_cast, seval]) | refine iX ?_ ?_ <;> intros | refine aI (by omega) ?_ | refine dq ?_)
          refine (mL w2 h2 ll (by omega)).mono ?_
          rintro _ w3 ⟨Lz, z1, z2, h3, c3⟩
          have c03 := c02.trans c3
          by_cases rr : E < b
          · repeat' (first | (simp (disch := omega) only [push_cast, seval]) | refine iX ?_ ?_ <;> intros | refine aI (by omega) ?_ | refine dq ?_)
            refine (mR w3 Lz z2 h3 (by omega) rr).mono ?_
            rintro _ w4 ⟨Rz, y1, y2, y3, y4⟩
            have hf := fin w4 Lz Rz z1 y1 z2 y2 (by simpa using y3) (c03.trans y4)
            clear mR fin
            repeat' (first | (simp (disch := omega) only [push_cast, seval]) | refine iX ?_ ?_ <;> intros | refine aI (by omega) ?_ | refine dq ?_)
            exact hf
          · have hf := fin w3 Lz (u ++ B0) z1 (noR (by omega)) z2 (Stb.refl _) (by simpa using h3) c03
            clear mR fin
            repeat' (first | (simp (disch := omega) only [push_cast, seval]) | refine iX ?_ ?_ <;> intros | refine aI (by omega) ?_ | refine dq ?_)
            exact hf
        · obtain ⟨Lz, z1, z2, hLz⟩ := noL (by omega)
          have h3 : Sg w2 B B' g c L (X ++ Lz ++ (u ++ (B0 ++ Y))) := by rw [hLz]; simpa using h2
          have c03 := c02
          by_cases rr : E < b
          · repeat' (first | (simp (disch := omega) only [push_cast, seval]) | refine iX ?_ ?_ <;> intros | refine aI (by omega) ?_ | refine dq ?_)
            refine (mR w2 Lz z2 h3 (by omega) rr).mono ?_
            rintro _ w4 ⟨Rz, y1, y2, y3, y4⟩
            have hf := fin w4 Lz Rz z1 y1 z2 y2 (by simpa using y3) (c03.trans y4)
            clear mR fin
            repeat' (first | (simp (disch := omega) only [push_cast, seval]) | refine iX ?_ ?_ <;> intros | refine aI (by omega) ?_ | refine dq ?_)
            exact hf
          · have hf := fin w2 Lz (u ++ B0) z1 (noR (by omega)) z2 (Stb.refl _) (by simpa using h3) c03
            clear mR fin
            repeat' (first | (simp (disch := omega) only [push_cast, seval]) | refine iX ?_ ?_ <;> intros | refine aI (by omega) ?_ | refine dq ?_)
            exact hf
      · have h2 := same (by right; exact List.length_eq_zero_iff.1 (by omega)) w1 h1
        have c02 := c01
        obtain ⟨Lz, z1, z2, hLz⟩ := noL (by omega)
        have h3 : Sg w1 B B' g c L (X ++ Lz ++ (u ++ (B0 ++ Y))) := by rw [hLz]; simpa using h2
        have c03 := c02
        have rr : E < b := by omega
        repeat' (first | (simp (disch := omega) only [push_cast, seval, eE]) | refine iX ?_ ?_ <;> intros | refine aI (by omega) ?_ | refine dq ?_)
        refine (mR w1 Lz z2 h3 (by omega) rr).mono ?_
        rintro _ w4 ⟨Rz, y1, y2, y3, y4⟩
        have hf := fin w4 Lz Rz z1 y1 z2 y2 (by simpa using y3) (c03.trans y4)
        clear mR fin
        repeat' (first | (simp (disch := omega) only [push_cast, seval]) | refine iX ?_ ?_ <;> intros | refine aI (by omega) ?_ | refine dq ?_)
        exact hf
set_option maxHeartbeats 4000000 in
theorem gsymMergeHi_c (D : Nat) (ih : ∀ d, d < D → GSymOk kb od d) (B B' g c : Nat) (L X U V Y : List (Ge kb od)) (a m b : Nat) (w : World) (hD : b - a = D) (h : Sg w B B' g c L (X ++ (U ++ V) ++ Y)) (hX : X.length = a) (hU : U.length = m - a) (hV : V.length = b - m) (ham : a < m) (hmb : m < b) (sU : Srt glt U) (sV : Srt glt V) (hmm0 : ¬ (a + b) / 2 < m) (hA : ¬ m = a + 1) (hB : ¬ b = m + 1) :
    FnC Tryz.prog 135 #[.slice (some ⟨g, 0, none⟩) (X ++ (U ++ V) ++ Y).length c, .int .i64 (a : Int), .int .i64 (m : Int), .int .i64 (b : Int), (cmpG kb)] w fun r w' => Mgg B B' g c L X (U ++ V) Y w w' := by
  have hs := (glt_swo (kb := kb) (od := od))
  have hbig := h.big
  have hlen : (X ++ (U ++ V) ++ Y).length = b + Y.length := by simp only [List.length_append]; omega
  rw [hlen] at hbig
  have gM : ∀ i, a ≤ i → i < b → (X ++ (U ++ V) ++ Y)[i]! = (U ++ V)[i - a]! := fun i h1 h2 => by
    rw [cur_UV _ _ _ (by omega) (by simp only [List.length_append]; omega), hX]
  generalize hcur : X ++ (U ++ V) ++ Y = cur at *
  generalize hN : cur.length = N at *
  obtain ⟨mid, hmid⟩ : ∃ mid, mid = (a + b) / 2 := ⟨_, rfl⟩
  obtain ⟨p1, p2, p3, p4, p5, p6⟩ := sym_in ham hmb
  obtain ⟨S0, hS0⟩ : ∃ S0, S0 = s0 a m b := ⟨_, rfl⟩
  obtain ⟨R0, hR0⟩ : ∃ R0, R0 = r0 a m b := ⟨_, rfl⟩
  have hS0' : S0 = if mid < m then mid + m - b else a := by rw [hS0, hmid]; rfl
  have hR0' : R0 = if mid < m then mid else m := by rw [hR0, hmid]; rfl
  have p2' : S0 ≤ R0 := by rw [hS0, hR0]; exact p2
  have p1' : a ≤ S0 := by rw [hS0]; exact p1
  have p3' : R0 ≤ m := by rw [hR0]; exact p3
  have p4' : R0 ≤ mid := by rw [hR0, hmid]; exact p4
  have p5' : ∀ c, S0 ≤ c → c < R0 → m ≤ mid + m - 1 - c ∧ mid + m - 1 - c < b := by rw [hS0, hR0, hmid]; exact p5
  have p6' : mid + m - S0 ≤ b := by rw [hS0, hmid]; exact p6
  clear p1 p2 p3 p4 p5 p6
  have e1 : ((a : Int) + (b : Int)) / 2 = (mid : Int) := by omega
  have e2 : ((a : Int) + (b : Int)) / 2 ^ 1 = (mid : Int) := by rw [Int.pow_succ]; simpa using e1
  refine enter135 _ _ _ _ _ ?_
  unfold B135
  have hmm : ¬ mid < m := by omega
  · rw [if_neg hmm] at hS0' hR0'
    have e3 : (S0 : Int) = (a : Int) := by omega
    have e4 : (R0 : Int) = (m : Int) := by omega
    repeat' (first | (simp (disch := omega) only [push_cast, seval, e1, e2]) | refine iX ?_ ?_ <;> intros | refine aI (by omega) ?_ | refine dq ?_)
    refine vc_loop W135_4 (fun p : Nat × Nat => [(20, .int .i64 (p.1 : Int)), (21, .int .i64 (p.2 : Int))])
      (fun p w' => S0 ≤ p.1 ∧ p.1 ≤ p.2 ∧ p.2 ≤ R0 ∧ (p.1 = S0 ∨ glt cur[mid + m - p.1]! cur[p.1 - 1]! = false) ∧ (p.2 = R0 ∨ glt cur[mid + m - 1 - p.2]! cur[p.2]! = true) ∧ Later w w') (fun p => p.2 - p.1) (S0, R0) (by decide) ?_ ?_ ?_
    · simp (disch := omega) only [push_cast, seval, e3, e4]
    · exact ⟨Nat.le_refl _, p2', Nat.le_refl _, .inl rfl, .inl rfl, Later.refl _⟩
    rintro ⟨s, t⟩ uu w1 ⟨q1, q2, q3, q4, q5, l1⟩
    dsimp only at q1 q2 q3 q4 q5
    have h1 := h.later l1
    by_cases hst : s < t
    · obtain ⟨r, hr⟩ : ∃ r : Nat, r = (s + t) / 2 := ⟨_, rfl⟩
      have f1 : ((s : Int) + (t : Int)) / 2 = (r : Int) := by omega
      have f2 : ((s : Int) + (t : Int)) / 2 ^ 1 = (r : Int) := by rw [Int.pow_succ]; simpa using f1
      obtain ⟨b1, b2⟩ := p5' r (by omega) (by omega)
      have t1 : ((r : Int)).toNat = r := by omega
      have t2 : ((mid : Int) + (m : Int) - 1 - (r : Int)).toNat = mid + m - 1 - r := by omega
      have fr := h1.at (i := r) (by omega)
      have fa := h1.at (i := mid + m - 1 - r) (by omega)
      have er := h1.elAt (i := r) (by omega)
      have ea := h1.elAt (i := mid + m - 1 - r) (by omega)
      repeat' (first | (simp (disch := omega) only [push_cast, seval, f1, f2, t1, t2, fr, fa]) | refine iX ?_ ?_ <;> intros | refine aI (by omega) ?_ | refine dq ?_)
      refine QFn.of hb59 (v := .int .i64 (gcmp cur[mid + m - 1 - r]! cur[r]!)) (fun w' hl => gcompare_c _ _ w' (ea.is.later hl) (er.is.later hl)) ?_
      have hcmp : glt cur[mid + m - 1 - r]! cur[r]! = decide (gcmp cur[mid + m - 1 - r]! cur[r]! < 0) := rfl
      by_cases hlt : gcmp cur[mid + m - 1 - r]! cur[r]! < 0
      · repeat' (first | (simp (disch := omega) only [push_cast, seval]) | refine iX ?_ ?_ <;> intros | refine aI (by omega) ?_ | refine dq ?_)
        intro w2 l2
        repeat' (first | (simp (disch := omega) only [push_cast, seval]) | refine iX ?_ ?_ <;> intros | refine aI (by omega) ?_ | refine dq ?_)
        exact ⟨rfl, (s, r), by simp (disch := omega) only [push_cast, seval], ⟨q1, by dsimp only; omega, by dsimp only; omega, q4, .inr (by rw [hcmp]; exact decide_eq_true hlt), l1.trans l2⟩, by dsimp only; omega⟩
      · repeat' (first | (simp (disch := omega) only [push_cast, seval]) | refine iX ?_ ?_ <;> intros | refine aI (by omega) ?_ | refine dq ?_)
        intro w2 l2
        repeat' (first | (simp (disch := omega) only [push_cast, seval]) | refine iX ?_ ?_ <;> intros | refine aI (by omega) ?_ | refine dq ?_)
        exact ⟨rfl, (r + 1, t), by simp (disch := omega) only [push_cast, seval], ⟨by dsimp only; omega, by dsimp only; omega, q3, .inr (by rw [show r + 1 - 1 = r by omega, show mid + m - (r + 1) = mid + m - 1 - r by omega, hcmp]; exact decide_eq_false hlt), q5, l1.trans l2⟩, by dsimp only; omega⟩
    · have hts : t = s := by omega
      subst hts
      have k1 : t = S0 ∨ glt (U ++ V)[mid + m - t - a]! (U ++ V)[t - 1 - a]! = false := by
        rcases q4 with h | h
        · exact .inl h
        · by_cases h0 : t = S0
          · exact .inl h0
          · obtain ⟨b1, b2⟩ := p5' (t - 1) (by omega) (by omega)
            right
            rw [← gM (mid + m - t) (by omega) (by omega), ← gM (t - 1) (by omega) (by omega)]
            exact h
      have k2 : t = R0 ∨ glt (U ++ V)[mid + m - 1 - t - a]! (U ++ V)[t - a]! = true := by
        rcases q5 with h | h
        · exact .inl h
        · by_cases h0 : t = R0
          · exact .inl h0
          · obtain ⟨b1, b2⟩ := p5' t (by omega) (by omega)
            right
            rw [← gM (mid + m - 1 - t) (by omega) (by omega), ← gM t (by omega) (by omega)]
            exact h
      obtain ⟨huv, hAB⟩ := sym_facts hs hU hV ham hmb sU sV (by rw [← hS0]; exact q1) (by rw [← hR0]; exact q3) (by rw [← hS0, ← hmid]; exact k1) (by rw [← hR0, ← hmid]; exact k2) (fun h => .inr (sym_r h))
      rw [← hmid] at huv hAB
      obtain ⟨E, hE⟩ : ∃ E, E = mid + m - t := ⟨_, rfl⟩
      have eE : (mid : Int) + (m : Int) - (t : Int) = (E : Int) := by omega
      have hEb : E ≤ b := by omega
      rw [← hE] at huv hAB
      have hUU : U = U.take (t - a) ++ U.drop (t - a) := (List.take_append_drop _ _).symm
      have hVV : V = V.take (E - m) ++ V.drop (E - m) := (List.take_append_drop _ _).symm
      have n1 : (U.take (t - a)).length = t - a := by rw [List.length_take]; omega
      have n2 : (U.drop (t - a)).length = m - t := by rw [List.length_drop]; omega
      have n3 : (V.take (E - m)).length = E - m := by rw [List.length_take]; omega
      have n4 : (V.drop (E - m)).length = b - E := by rw [List.length_drop]; omega
      generalize U.take (t - a) = A0 at *
      generalize U.drop (t - a) = u at *
      generalize V.take (E - m) = v at *
      generalize V.drop (E - m) = B0 at *
      rw [hUU] at sU
      rw [hVV] at sV
      have hcl : X ++ (A0 ++ u ++ (v ++ B0)) ++ Y = cur := by rw [← hUU, ← hVV]; exact hcur
      obtain ⟨sA, su, _⟩ := Srt.append.1 sU
      obtain ⟨sv, sB, _⟩ := Srt.append.1 sV
      have fin : ∀ w' Lz Rz, Srt glt Lz → Srt glt Rz → Stb glt (A0 ++ v) Lz → Stb glt (u ++ B0) Rz → Sg w' B B' g c L (X ++ Lz ++ (Rz ++ Y)) → Chg w w' [g] → Mgg B B' g c L X (U ++ V) Y w w' := by
        intro w' Lz Rz z1 z2 z3 z4 z5 z6
        obtain ⟨y1, y2⟩ := halves hs sU sV huv hAB z3 z4 z1 z2
        refine ⟨Lz ++ Rz, y1, ?_, by simpa using z5, z6⟩
        rw [hUU, hVV]; exact y2
      have rotH : 0 < u.length → 0 < v.length → FnC Tryz.prog 147 #[.slice (some ⟨g, 0, none⟩) N c, .int .i64 (t : Int), .int .i64 (m : Int), .int .i64 (E : Int), (cmpG kb)] w1 fun r w' => Sg w' B B' g c L (X ++ A0 ++ v ++ u ++ (B0 ++ Y)) ∧ Chg w1 w' [g] := by
        intro hu hv
        have hin : Sg w1 B B' g c L (X ++ A0 ++ u ++ v ++ (B0 ++ Y)) := by
          have := h1
          rw [← hcl] at this
          simpa using this
        have := grotate_c B B' g c L (X ++ A0) u v (B0 ++ Y) w1 hin hu hv
        have a0 : (X ++ A0 ++ u ++ v ++ (B0 ++ Y)).length = N := by rw [← hN, ← hcl]; simp only [List.length_append]; omega
        have a1 : (X ++ A0).length = t := by rw [List.length_append]; omega
        have a2 : (X ++ A0).length + u.length = m := by omega
        have a3 : (X ++ A0).length + u.length + v.length = E := by omega
        rw [a0, a3, a2, a1] at this
        exact this
      have same : u = [] ∨ v = [] → ∀ w', Sg w' B B' g c L cur → Sg w' B B' g c L (X ++ A0 ++ v ++ u ++ (B0 ++ Y)) := by
        intro huv w' hw
        rw [← hcl] at hw
        rcases huv with rfl | rfl
        · simpa using hw
        · simpa using hw
      have mL : ∀ w2, Sg w2 B B' g c L (X ++ A0 ++ v ++ u ++ (B0 ++ Y)) → a < t → t < mid → FnC Tryz.prog gsymF #[.slice (some ⟨g, 0, none⟩) N c, .int .i64 (a : Int), .int .i64 (t : Int), .int .i64 (mid : Int), (cmpG kb)] w2 fun r w' => Mgg B B' g c L X (A0 ++ v) (u ++ (B0 ++ Y)) w2 w' := by
        intro w2 h2 z1 z2
        have := ih (mid - a) (by omega) B B' g c L X A0 v (u ++ (B0 ++ Y)) a t mid w2 rfl (by simpa using h2) hX n1 (by omega) z1 z2 sA sv
        have a0 : (X ++ (A0 ++ v) ++ (u ++ (B0 ++ Y))).length = N := by rw [← hN, ← hcl]; simp only [List.length_append]; omega
        rw [a0] at this
        exact this
      have noL : ¬ (a < t ∧ t < mid) → ∃ Lz, Srt glt Lz ∧ Stb glt (A0 ++ v) Lz ∧ Lz = A0 ++ v := by
        intro hno
        by_cases ht : a < t
        · have : v = [] := List.length_eq_zero_iff.1 (by omega)
          subst this
          exact ⟨A0 ++ [], by simpa using sA, Stb.refl _, rfl⟩
        · have : A0 = [] := List.length_eq_zero_iff.1 (by omega)
          subst this
          exact ⟨[] ++ v, by simpa using sv, Stb.refl _, rfl⟩
      have mR : ∀ w3 Lz, Stb glt (A0 ++ v) Lz → Sg w3 B B' g c L (X ++ Lz ++ (u ++ (B0 ++ Y))) → mid < E → E < b → FnC Tryz.prog gsymF #[.slice (some ⟨g, 0, none⟩) N c, .int .i64 (mid : Int), .int .i64 (E : Int), .int .i64 (b : Int), (cmpG kb)] w3 fun r w' => Mgg B B' g c L (X ++ Lz) (u ++ B0) Y w3 w' := by
        intro w3 Lz hz h3 z1 z2
        have hzl := hz.1
        rw [List.length_append] at hzl
        have hXL : (X ++ Lz).length = mid := by rw [List.length_append]; omega
        have := ih (b - mid) (by omega) B B' g c L (X ++ Lz) u B0 Y mid E b w3 rfl (by simpa using h3) hXL (by omega) n4 z1 z2 su sB
        have a0 : (X ++ Lz ++ (u ++ B0) ++ Y).length = N := by rw [← hN, ← hcl]; simp only [List.length_append]; omega
        rw [a0] at this
        exact this
      have noR : ¬ (mid < E ∧ E < b) → Srt glt (u ++ B0) := by
        intro hno
        by_cases ht : mid < E
        · have : B0 = [] := List.length_eq_zero_iff.1 (by omega)
          subst this
          simpa using su
        · have : u = [] := List.length_eq_zero_iff.1 (by omega)
          subst this
          simpa using sB
      have c01 : Chg w w1 [g] := Chg.of_later l1
      have m2 := n2
      have m3 : v.length = mid - t := by omega
      have nu : t ≤ m := by omega
      have nv : t ≤ mid := by omega
      have namid : a < mid := by omega
      clear huv hAB hUU hVV n1 n3 n4 sU sV sA su sv sB k1 k2 q4 q5 gM hs hcl ih p1' p2' p3' p4' p5' p6' hS0 hR0 hS0' hR0' e1 e2 e3 e4 hmid hst q1 q2 q3 hA hB hX hU hV hlen h hD
      by_cases pp : t < m
      · have qq : t < mid := by omega
        repeat' (first | (simp (disch := omega) only [push_cast, seval, eE]) | refine iX ?_ ?_ <;> intros | refine aI (by omega) ?_ | refine dq ?_)
        refine (rotH (by omega) (by omega)).mono ?_
        rintro _ w2 ⟨h2, c2⟩
        have c02 := c01.trans c2
        clear rotH same
        by_cases ll : a < t
        · repeat' (first | (simp (disch := omega) only [push_cast, seval]) | refine iX ?_ ?_ <;> intros | refine aI (by omega) ?_ | refine dq ?_)
          refine (mL w2 h2 ll (by omega)).mono ?_
          rintro _ w3 ⟨Lz, z1, z2, h3, c3⟩
          have c03 := c02.trans c3
          by_cases rr : E < b
          · repeat' (first | (simp (disch := omega) only [push_cast, seval]) | refine iX ?_ ?_ <;> intros | refine aI (by omega) ?_ | refine dq ?_)
            refine (mR w3 Lz z2 h3 (by omega) rr).mono ?_
            rintro _ w4 ⟨Rz, y1, y2, y3, y4⟩
            have hf := fin w4 Lz Rz z1 y1 z2 y2 (by simpa using y3) (c03.trans y4)
            clear mR fin
            repeat' (first | (simp (disch := omega) only [push_cast, seval]) | refine iX ?_ ?_ <;> intros | refine aI (by omega) ?_ | refine dq ?_)
            exact hf
          · have hf := fin w3 Lz (u ++ B0) z1 (noR (by omega)) z2 (Stb.refl _) (by simpa using h3) c03
            clear mR fin
            repeat' (first | (simp (disch := omega) only [push_cast, seval]) | refine iX ?_ ?_ <;> intros | refine aI (by omega) ?_ | refine dq ?_)
            exact hf
        · obtain ⟨Lz, z1, z2, hLz⟩ := noL (by omega)
          have h3 : Sg w2 B B' g c L (X ++ Lz ++ (u ++ (B0 ++ Y))) := by rw [hLz]; simpa using h2
          have c03 := c02
          by_cases rr : E < b
          · repeat' (first | (simp (disch := omega) only [push_cast, seval]) | refine iX ?_ ?_ <;> intros | refine aI (by omega) ?_ | refine dq ?_)
            refine (mR w2 Lz z2 h3 (by omega) rr).mono ?_
            rintro _ w4 ⟨Rz, y1, y2, y3, y4⟩
            have hf := fin w4 Lz Rz z1 y1 z2 y2 (by simpa using y3) (c03.trans y4)
            clear mR fin
            repeat' (first | (simp (disch := omega) only [push_cast, seval]) | refine iX ?_ ?_ <;> intros | refine aI (by omega) ?_ | refine dq ?_)
            exact hf
          · have hf := fin w2 Lz (u ++ B0) z1 (noR (by omega)) z2 (Stb.refl _) (by simpa using h3) c03
            clear mR fin
            repeat' (first | (simp (disch := omega) only [push_cast, seval]) | refine iX ?_ ?_ <;> intros | refine aI (by omega) ?_ | refine dq ?_)
            exact hf
      · by_cases qq : t < mid
        · have h2 := same (by left; exact List.length_eq_zero_iff.1 (by omega)) w1 h1
          have c02 := c01
          have ll : a < t := by omega
          repeat' (first | (simp (disch := omega) only [push_cast, seval, eE]) | refine iX ?_ ?_ <;> intros | refine aI (by omega) ?_ | refine dq ?_)
          refine (mL w1 h2 ll (by omega)).mono ?_
          rintro _ w3 ⟨Lz, z1, z2, h3, c3⟩
          have c03 := c02.trans c3
          have hf := fin w3 Lz (u ++ B0) z1 (noR (by omega)) z2 (Stb.refl _) (by simpa using h3) c03
          clear mR fin
          repeat' (first | (simp (disch := omega) only [push_cast, seval]) | refine iX ?_ ?_ <;> intros | refine aI (by omega) ?_ | refine dq ?_)
          exact hf
        · have h2 := same (by left; exact List.length_eq_zero_iff.1 (by omega)) w1 h1
          have c02 := c01
          obtain ⟨Lz, z1, z2, hLz⟩ := noL (by omega)
          have h3 : Sg w1 B B' g c L (X ++ Lz ++ (u ++ (B0 ++ Y))) := by rw [hLz]; simpa using h2
          have c03 := c02
          have hf := fin w1 Lz (u ++ B0) z1 (noR (by omega)) z2 (Stb.refl _) (by simpa using h3) c03
          clear mR fin
          repeat' (first | (simp (disch := omega) only [push_cast, seval, eE]) | refine iX ?_ ?_ <;> intros | refine aI (by omega) ?_ | refine dq ?_)
          exact hf
theorem gsymMerge_c : ∀ (D : Nat), GSymOk kb od D := by
  intro D
  induction D using Nat.strongRecOn with
  | ind D ih =>
  intro B B' g c L X U V Y a m b w hD h hX hU hV ham hmb sU sV
  by_cases hA : m = a + 1
  · obtain ⟨e, rfl⟩ : ∃ e, U = [e] := List.length_eq_one_iff.1 (by omega)
    exact gmergeA_c B B' g c L X e V Y a m b w h hX hA hV hmb sV
  by_cases hB : b = m + 1
  · obtain ⟨e, rfl⟩ : ∃ e, V = [e] := List.length_eq_one_iff.1 (by omega)
    exact gmergeB_c B B' g c L X U e Y a m b w h hX hU (by omega) hB sU
  by_cases hmm : (a + b) / 2 < m
  · exact gsymMergeLo_c D ih B B' g c L X U V Y a m b w hD h hX hU hV ham hmb sU sV hmm hA hB
  · exact gsymMergeHi_c D ih B B' g c L X U V Y a m b w hD h hX hU hV ham hmb sU sV hmm hA hB
end Go.Proofs.YtnofalhkapmcnaaGreat
end
section
set_option linter.unusedSimpArgs false
namespace Go.Proofs.YtnofalhkapmcnaaGreat
open Go.Vc Go.Key Go.Stab
set_option maxRecDepth 100000
variable {kb : Nat} {od : Int}
theorem gbs_take (bs : Nat) (R : List (Ge kb od)) (h : bs + bs ≤ R.length) : R = (R.take bs ++ (R.drop bs).take bs) ++ R.drop (bs + bs) := by
  have h1 : R.drop bs = (R.drop bs).take bs ++ (R.drop bs).drop bs := (List.take_append_drop _ _).symm
  rw [List.drop_drop] at h1
  have h2 : R = R.take bs ++ R.drop bs := (List.take_append_drop _ _).symm
  rw [List.append_assoc, ← h1, ← h2]
set_option maxHeartbeats 2000000 in
theorem gstable_c (B B' g c : Nat) (L l : List (Ge kb od)) (w : World) (h : Sg w B B' g c L l) :
    FnC Tryz.prog 108 #[.slice (some ⟨g, 0, none⟩) l.length c, .int .i64 (l.length : Int), (cmpG kb)] w fun r w' => ∃ l', Srt glt l' ∧ Stb glt l l' ∧ Sg w' B B' g c L l' ∧ Chg w w' [g] := by
  have hbig := h.big
  generalize hN : l.length = N at *
  refine enter108 _ _ _ ?_
  unfold B108
  repeat' (first | (simp (disch := omega) only [push_cast, seval]) | refine iX ?_ ?_ <;> intros | refine aI (by omega) ?_ | refine dq ?_)
  refine vc_loop W108_0 (fun A : Nat => [(7, .int .i64 (A : Int)), (8, .int .i64 ((A : Int) + 20))])
    (fun A w' => (∃ k, A = k * 20) ∧ ∃ P R, P.length = A ∧ P.length + R.length = N ∧ Bs glt 20 P ∧ Stb glt l (P ++ R) ∧ Sg w' B B' g c L (P ++ R) ∧ Chg w w' [g]) (fun A => N - A) 0 (by decide) ?_ ?_ ?_
  · simp (disch := omega) only [push_cast, seval]
  · exact ⟨⟨0, rfl⟩, [], l, rfl, by simp [hN], Bs.nil, Stb.refl _, h, Chg.refl _ _⟩
  rintro A uu w1 ⟨⟨k, hk⟩, P, R, hP, hPR, bP, tl, h1, c1⟩
  by_cases hlt : A + 20 ≤ N
  · have hR : R = R.take 20 ++ R.drop 20 := (List.take_append_drop _ _).symm
    have n1 : (R.take 20).length = 20 := by rw [List.length_take]; omega
    have n2 : (R.drop 20).length = R.length - 20 := List.length_drop
    generalize R.take 20 = M at *
    generalize R.drop 20 = Y at *
    subst hR
    have hi := ginsertion_c B B' g c L P M Y w1 (by simpa using h1)
    rw [show (P ++ M ++ Y).length = N by simp only [List.length_append] at *; omega, show P.length + M.length = A + 20 by omega, hP] at hi
    repeat' (first | (simp (disch := omega) only [push_cast, seval]) | refine iX ?_ ?_ <;> intros | refine aI (by omega) ?_ | refine dq ?_)
    refine hi.mono ?_
    rintro _ w2 ⟨M', sM, tM, h2, c2⟩
    have hl' := tM.1
    obtain ⟨A', hA'⟩ : ∃ A', A' = A + 20 := ⟨_, rfl⟩
    have eA : (A : Int) + 20 = (A' : Int) := by omega
    repeat' (first | (simp (disch := omega) only [push_cast, seval, eA]) | refine iX ?_ ?_ <;> intros | refine aI (by omega) ?_ | refine dq ?_)
    refine ⟨rfl, A', by simp (disch := omega) only [push_cast, seval, eA], ⟨⟨k + 1, by omega⟩, P ++ M', Y, by rw [List.length_append]; omega, by rw [List.length_append]; rw [List.length_append] at hPR; omega, bP.snoc (k := k) (by omega) sM (by omega), ?_, h2, c1.trans c2⟩, by dsimp only; omega⟩
    refine tl.trans ?_
    have := ((Stb.refl (lt := glt) P).append tM).append (Stb.refl (lt := glt) Y)
    simpa using this
  · have hi := ginsertion_c B B' g c L P R [] w1 (by simpa using h1)
    rw [show (P ++ R ++ ([] : List (Ge kb od))).length = N by simp only [List.length_append, List.length_nil]; omega, hPR, hP] at hi
    repeat' (first | (simp (disch := omega) only [push_cast, seval]) | refine iX ?_ ?_ <;> intros | refine aI (by omega) ?_ | refine dq ?_)
    refine hi.mono ?_
    rintro _ w2 ⟨R', sR, tR, h2, c2⟩
    have hl' := tR.1
    have bP' : Bs glt 20 (P ++ R') := bP.snoc (k := k) (by omega) sR (by omega)
    have tl' : Stb glt l (P ++ R') := tl.trans ((Stb.refl (lt := glt) P).append tR)
    have hlen : (P ++ R').length = N := by rw [List.length_append]; omega
    rw [List.append_nil] at h2
    have c12 := c1.trans c2
    clear hi h1 c1 c2 tR sR tl bP
    generalize P ++ R' = cur at *
    repeat' (first | (simp (disch := omega) only [push_cast, seval]) | refine iX ?_ ?_ <;> intros | refine aI (by omega) ?_ | refine dq ?_)
    refine vc_loop W108_1 (fun bs : Nat => [(6, .int .i64 (bs : Int))])
      (fun bs w' => 20 ≤ bs ∧ bs ≤ 2000000 ∧ ∃ cur, cur.length = N ∧ Bs glt bs cur ∧ Stb glt l cur ∧ Sg w' B B' g c L cur ∧ Chg w w' [g]) (fun bs => N - bs) 20 (by decide) ?_ ?_ ?_
    · simp (disch := omega) only [push_cast, seval]
    · exact ⟨by omega, by omega, cur, hlen, bP', tl', h2, c12⟩
    clear hlen bP' tl' h2 c12
    rintro bs uu2 w3 ⟨hb1, hb2, cur, hlen, bC, tC, h3, c3⟩
    by_cases hbn : bs < N
    · repeat' (first | (simp (disch := omega) only [push_cast, seval]) | refine iX ?_ ?_ <;> intros | refine aI (by omega) ?_ | refine dq ?_)
      refine vc_loop W108_2 (fun A : Nat => [(7, .int .i64 (A : Int)), (8, .int .i64 ((A : Int) + 2 * (bs : Int)))])
        (fun A w' => (∃ k, A = k * (bs + bs)) ∧ ∃ P R, P.length = A ∧ P.length + R.length = N ∧ Bs glt (bs + bs) P ∧ Bs glt bs R ∧ Stb glt l (P ++ R) ∧ Sg w' B B' g c L (P ++ R) ∧ Chg w w' [g]) (fun A => N - A) 0 (by decide) ?_ ?_ ?_
      · simp (disch := omega) only [push_cast, seval, Int.zero_add]
      · exact ⟨⟨0, by simp⟩, [], cur, rfl, by simp [hlen], Bs.nil, bC, tC, h3, c3⟩
      clear hlen bC tC h3 c3
      rintro A uu3 w4 ⟨⟨k, hk⟩, P, R, hP, hPR, bP, bR, tl, h4, c4⟩
      by_cases hlt : A + 2 * bs ≤ N
      · have hR := gbs_take bs R (by omega)
        obtain ⟨s1, s2, s3⟩ := bR.two
        have n1 : (R.take bs).length = bs := by rw [List.length_take]; omega
        have n2 : ((R.drop bs).take bs).length = bs := by rw [List.length_take, List.length_drop]; omega
        have n3 : (R.drop (bs + bs)).length = R.length - (bs + bs) := List.length_drop
        generalize R.take bs = U at *
        generalize (R.drop bs).take bs = V at *
        generalize R.drop (bs + bs) = Y at *
        have hRl : R.length = (U ++ V ++ Y).length := congrArg List.length hR
        rw [hR] at tl h4
        have hi := gsymMerge_c (2 * bs) B B' g c L P U V Y A (A + bs) (A + 2 * bs) w4 (by omega) (by simpa using h4) hP (by omega) (by omega) (by omega) (by omega) s1 s2
        rw [show (P ++ (U ++ V) ++ Y).length = N by simp only [List.length_append] at *; omega, show ((A + bs : Nat) : Int) = (A : Int) + (bs : Int) by omega, show ((A + 2 * bs : Nat) : Int) = (A : Int) + 2 * (bs : Int) by omega] at hi
        repeat' (first | (simp (disch := omega) only [push_cast, seval]) | refine iX ?_ ?_ <;> intros | refine aI (by omega) ?_ | refine dq ?_)
        refine hi.mono ?_
        rintro _ w5 ⟨Z, sZ, tZ, h5, c5⟩
        have hl' := tZ.1
        rw [List.length_append] at hl'
        have hk1 : (k + 1) * (bs + bs) = k * (bs + bs) + (bs + bs) := by rw [Nat.add_mul]; omega
        repeat' (first | (simp (disch := omega) only [push_cast, seval]) | refine iX ?_ ?_ <;> intros | refine aI (by omega) ?_ | refine dq ?_)
        refine ⟨rfl, A + 2 * bs, by simp (disch := omega) only [push_cast, seval], ⟨⟨k + 1, by omega⟩, P ++ Z, Y, by rw [List.length_append]; omega, by rw [List.length_append]; omega, bP.snoc (k := k) (by omega) sZ (by omega), s3, ?_, h5, c4.trans c5⟩, by dsimp only; omega⟩
        refine tl.trans ?_
        have := ((Stb.refl (lt := glt) P).append tZ).append (Stb.refl (lt := glt) Y)
        simpa using this
      · have fin : ∀ w5 Z, Srt glt Z → Stb glt R Z → Sg w5 B B' g c L (P ++ Z) → Chg w w5 [g] → 20 ≤ bs * 2 ∧ bs * 2 ≤ 2000000 ∧ ∃ cur, cur.length = N ∧ Bs glt (bs * 2) cur ∧ Stb glt l cur ∧ Sg w5 B B' g c L cur ∧ Chg w w5 [g] := by
          intro w5 Z sZ tZ h5 c5
          have hl' := tZ.1
          refine ⟨by omega, by omega, P ++ Z, by rw [List.length_append]; omega, ?_, tl.trans ((Stb.refl (lt := glt) P).append tZ), h5, c5⟩
          rw [show bs * 2 = bs + bs by omega]
          exact bP.snoc (k := k) (by omega) sZ (by omega)
        obtain ⟨b2, hb2'⟩ : ∃ b2, b2 = bs * 2 := ⟨_, rfl⟩
        rw [← hb2'] at fin
        have eb : (bs : Int) * 2 = (b2 : Int) := by omega
        by_cases hmn : A + bs < N
        · have hR : R = R.take bs ++ R.drop bs := (List.take_append_drop _ _).symm
          obtain ⟨s1, s2, _⟩ := bR.two
          have n1 : (R.take bs).length = bs := by rw [List.length_take]; omega
          have n2 : (R.drop bs).length = R.length - bs := List.length_drop
          rw [List.take_of_length_le (by omega)] at s2
          generalize R.take bs = U at *
          generalize R.drop bs = V at *
          have h4' : Sg w4 B B' g c L (P ++ (U ++ V) ++ []) := by rw [← hR]; simpa using h4
          have hi := gsymMerge_c (N - A) B B' g c L P U V [] A (A + bs) N w4 rfl h4' hP (by omega) (by omega) (by omega) (by omega) s1 s2
          rw [show (P ++ (U ++ V) ++ ([] : List (Ge kb od))).length = N by rw [← hR]; simp only [List.length_append, List.length_nil]; omega, show ((A + bs : Nat) : Int) = (A : Int) + (bs : Int) by omega] at hi
          repeat' (first | (simp (disch := omega) only [push_cast, seval]) | refine iX ?_ ?_ <;> intros | refine aI (by omega) ?_ | refine dq ?_)
          refine hi.mono ?_
          rintro _ w5 ⟨Z, sZ, tZ, h5, c5⟩
          rw [List.append_nil] at h5
          rw [← hR] at tZ
          have hf := fin w5 Z sZ tZ h5 (c4.trans c5)
          repeat' (first | (simp (disch := omega) only [push_cast, seval, eb]) | refine iX ?_ ?_ <;> intros | refine aI (by omega) ?_ | refine dq ?_)
          exact ⟨rfl, b2, by simp (disch := omega) only [push_cast, seval, eb], hf, by dsimp only; omega⟩
        · have hf := fin w4 R (bR.whole (by omega)) (Stb.refl _) h4 c4
          repeat' (first | (simp (disch := omega) only [push_cast, seval, eb]) | refine iX ?_ ?_ <;> intros | refine aI (by omega) ?_ | refine dq ?_)
          exact ⟨rfl, b2, by simp (disch := omega) only [push_cast, seval, eb], hf, by dsimp only; omega⟩
    · have hf : ∃ l', Srt glt l' ∧ Stb glt l l' ∧ Sg w3 B B' g c L l' ∧ Chg w w3 [g] := ⟨cur, bC.whole (by omega), tC, h3, c3⟩
      repeat' (first | (simp (disch := omega) only [push_cast, seval]) | refine iX ?_ ?_ <;> intros | refine aI (by omega) ?_ | refine dq ?_)
      exact hf
theorem gsortStable_c (B B' g c : Nat) (L l : List (Ge kb od)) (w : World) (h : Sg w B B' g c L l) :
    FnC Tryz.prog 58 #[.slice (some ⟨g, 0, none⟩) l.length c, (cmpG kb)] w fun r w' => ∃ l', Srt glt l' ∧ Stb glt l l' ∧ Sg w' B B' g c L l' ∧ Chg w w' [g] := by
  refine enter58 _ _ ?_
  unfold B58
  repeat' (first | (simp (disch := omega) only [push_cast, seval]) | refine iX ?_ ?_ <;> intros | refine aI (by omega) ?_ | refine dq ?_)
  refine (gstable_c B B' g c L l w h).mono ?_
  rintro _ w1 h1
  repeat' (first | (simp (disch := omega) only [push_cast, seval]) | refine iX ?_ ?_ <;> intros | refine aI (by omega) ?_ | refine dq ?_)
  exact h1
end Go.Proofs.YtnofalhkapmcnaaGreat
end
section
set_option linter.unusedSimpArgs false
namespace Go.Proofs.YtnofalhkapmcnaaGreat
open Go.Vc Go.Key Go.Stab
set_option maxRecDepth 100000
variable {kb : Nat} {od : Int}
theorem gins0_c (kb : Nat) (w : World) : FnC Tryz.prog 134 #[.slice none 0 0, .int .i64 0, .int .i64 0, (cmpG kb)] w fun r w' => w' = w := by
  refine enter134 _ _ _ _ ?_
  unfold B134
  repeat' (first | (simp (disch := omega) only [push_cast, seval]) | refine iX ?_ ?_ <;> intros | refine aI (by omega) ?_ | refine dq ?_)
  refine vc_loop W134_0 (fun _ : Nat => [(8, .int .i64 1)]) (fun _ w' => w' = w) (fun i => i) 0 (by decide) ?_ ?_ ?_
  · simp (disch := omega) only [push_cast, seval]
  · rfl
  rintro i uu w1 hw
  obtain rfl := hw.symm
  repeat' (first | (simp (disch := omega) only [push_cast, seval]) | refine iX ?_ ?_ <;> intros | refine aI (by omega) ?_ | refine dq ?_)
  all_goals rfl
theorem gstable0_c (kb : Nat) (w : World) : FnC Tryz.prog 108 #[.slice none 0 0, .int .i64 0, (cmpG kb)] w fun r w' => w' = w := by
  refine enter108 _ _ _ ?_
  unfold B108
  repeat' (first | (simp (disch := omega) only [push_cast, seval]) | refine iX ?_ ?_ <;> intros | refine aI (by omega) ?_ | refine dq ?_)
  refine vc_loop W108_0 (fun _ : Nat => [(7, .int .i64 0), (8, .int .i64 20)]) (fun _ w' => w' = w) (fun i => i) 0 (by decide) ?_ ?_ ?_
  · simp (disch := omega) only [push_cast, seval]
  · rfl
  rintro i uu w1 hw
  obtain rfl := hw.symm
  repeat' (first | (simp (disch := omega) only [push_cast, seval]) | refine iX ?_ ?_ <;> intros | refine aI (by omega) ?_ | refine dq ?_)
  refine (gins0_c kb w).mono ?_
  rintro _ w1 hw
  obtain rfl := hw.symm
  repeat' (first | (simp (disch := omega) only [push_cast, seval]) | refine iX ?_ ?_ <;> intros | refine aI (by omega) ?_ | refine dq ?_)
  refine vc_loop W108_1 (fun _ : Nat => [(6, .int .i64 20)]) (fun _ w' => w' = w) (fun i => i) 0 (by decide) ?_ ?_ ?_
  · simp (disch := omega) only [push_cast, seval]
  · rfl
  rintro i uu w1 hw
  obtain rfl := hw.symm
  repeat' (first | (simp (disch := omega) only [push_cast, seval]) | refine iX ?_ ?_ <;> intros | refine aI (by omega) ?_ | refine dq ?_)
  all_goals rfl
theorem gsortAny_c (B : Nat) (v : Value) (es : List (Ge kb od)) (w : World) (ho : OwnG w B v es) (hE : ∀ e ∈ es, EG w B e) (hl : es.length ≤ 1000000) : FnC Tryz.prog 58 #[v, (cmpG kb)] w fun r w' =>
    ∃ l', Srt glt l' ∧ Stb glt es l' ∧ RecS geC 3 w' v l' ∧ (∀ e ∈ l', EG w' B e) ∧ ∀ w0, Later w0 w → w0.heap.size ≤ B → Later w0 w' := by
  obtain ⟨o, c, rfl, _⟩ := RecS.slice (OwnR.s ho)
  cases o with
  | none =>
    obtain ⟨hn, hc0⟩ := (SlN.len (OwnR.s ho)).2.2.2.2 rfl
    have hn : es = [] := List.length_eq_zero_iff.1 hn
    subst hn
    have hc0 : c = 0 := hc0
    subst hc0
    refine enter58 _ _ ?_
    unfold B58
    simp only [List.length_nil]
    repeat' (first | (simp (disch := omega) only [push_cast, seval]) | refine iX ?_ ?_ <;> intros | refine aI (by omega) ?_ | refine dq ?_)
    refine (gstable0_c kb w).mono ?_
    rintro _ w1 hw
    obtain rfl := hw.symm
    repeat' (first | (simp (disch := omega) only [push_cast, seval]) | refine iX ?_ ?_ <;> intros | refine aI (by omega) ?_ | refine dq ?_)
    exact ⟨[], srt_nil, Stb.refl _, RecS.nil _, by simp, fun w0 h _ => h⟩
  | some a =>
    obtain ⟨g, rfl, hB, _, ⟨cs, hb⟩, _⟩ := own_writes ho
    refine (gsortStable_c B B g c es es w ⟨ho, hE, fun _ h => h, hl⟩).mono ?_
    rintro _ w1 ⟨l', s1, s2, s3, s4⟩
    have hl' := s2.1
    refine ⟨l', s1, s2, ?_, fun e he => s3.els e (s3.sub e he), fun w0 h hw0 => Chg.later h s4 (by intro j hj; rw [List.mem_singleton.1 hj]; omega)⟩
    rw [← hl']
    exact OwnR.s s3.own
end Go.Proofs.YtnofalhkapmcnaaGreat
end
section
set_option linter.unusedSimpArgs false
namespace Go.Proofs.YtnofalhkapmcnaaGreat
open Go.Vc Go.Key Go.Stab Go.Fold
set_option maxRecDepth 100000
set_option maxHeartbeats 1000000 in
theorem djoin_c (x y : El) (w : World) (hx : EIs w x) (hy : EIs w y) (rx : Rr x) (ry : Rr y) (hl : x.a.length = y.a.length) :
    FnC Tryz.prog 74 #[elV x, elV y] w fun r w' => ∃ z e, r = .tuple #[elV z, .int .i64 e] ∧ JR x y z e ∧ EO w' w.heap.size z ∧ Later w w' := by
  obtain ⟨n1, n2, ra, rd, rl⟩ := rx
  obtain ⟨m1, m2, sa, sd, sl⟩ := ry
  unfold elV
  refine enter74 _ _ ?_
  unfold B74
  have eca : (Value.agg #[.int .i64 x.t, x.dv, .int .i64 x.n, x.av]).cells = #[.int .i64 x.t, x.dv, .int .i64 x.n, x.av] := rfl
  have ecb : (Value.agg #[.int .i64 y.t, y.dv, .int .i64 y.n, y.av]).cells = #[.int .i64 y.t, y.dv, .int .i64 y.n, y.av] := rfl
  have s1 : (w.alloc (.cells #[.int .i64 x.t, x.dv, .int .i64 x.n, x.av] 55)).heap.size = w.heap.size + 1 := World.size_alloc w _
  obtain ⟨l2, F, hs⟩ := boxes w x y hx hy
  repeat' (first | (simp (disch := omega) only [push_cast, seval, eca, ecb, s1, hs]) | refine iX ?_ ?_ <;> intros | refine aI (by omega) ?_ | fail)
  generalize ((w.alloc (.cells #[.int .i64 x.t, x.dv, .int .i64 x.n, x.av] 55)).alloc (.cells #[.int .i64 y.t, y.dv, .int .i64 y.n, y.av] 55)) = w2 at *
  have l3 := later_alloc w2 (.cells #[.int .i64 0, .slice none 0 0, .int .i64 0, .slice none 0 0] 55)
  have B3 := Blk.new w2 #[.int .i64 0, .slice none 0 0, .int .i64 0, .slice none 0 0] 55
  rw [hs] at B3
  generalize w2.alloc (.cells #[.int .i64 0, .slice none 0 0, .int .i64 0, .slice none 0 0] 55) = w3 at *
  have G := fun w' (hl : Later w3 w') => F w' (l3.trans hl)
  have l03 := l2.trans l3
  clear F eca ecb s1
  obtain ⟨hx3, hy3, _, _, a0, a1, a2, a3, a4, b0, b1, b2, b3, b4⟩ := G w3 (Later.refl _)
  obtain ⟨ox, cx, hax, gx1, gx2⟩ := RecS.slice hx.2
  obtain ⟨oy, cy, hay, gy1, gy2⟩ := RecS.slice hy.2
  have hbig : w.heap.size + 2 < w3.heap.size := B3.lt
  repeat' (first | (simp (disch := omega) only [push_cast, seval, a4, b4]) | refine iX ?_ ?_ <;> intros | refine aI (by omega) ?_ | refine dq ?_)
  refine (onekey_c x y w3 hx3 hy3).mono ?_
  rintro _ w4 ⟨rfl, l4⟩
  obtain ⟨hx4, hy4, _, _, a0, a1, a2, a3, a4, b0, b1, b2, b3, b4⟩ := G w4 l4
  rw [hax] at a3
  rw [hay] at b3
  by_cases hc : ecmp x y = 0
  case neg =>
    have hj : JR x y z0 131 := .inl ⟨hc, rfl, rfl⟩
    rw [decide_eq_false hc]
    repeat' (first | (simp (disch := omega) only [push_cast, seval, a2, a3, b2, b3, addr_add_eq, Nat.zero_add]) | refine iX ?_ ?_ <;> intros | refine aI (by omega) ?_ | refine dq ?_)
    refine vStore_blk (l := [.int .i64 0, .slice none 0 0, .int .i64 0, .slice none 0 0]) (xs := elC z0) (B3.chg (Chg.of_later (ks := []) (l4)) (by simp)) rfl rfl (elC_one (EO.zero w4 0).is) ?_
    intro w9 B9 c9
    repeat' (first | (simp (disch := omega) only [push_cast, seval]) | refine iX ?_ ?_ <;> intros | refine aI (by omega) ?_ | refine dq ?_)
    refine resK_cells (s := 4) (by simp (disch := omega) only [push_cast, seval]) (by rw [Tryz.underlying55]; exact sz55) (Blk.cellsAt (l := elC z0) B9) ?_
    repeat' (first | (simp (disch := omega) only [push_cast, seval]) | refine iX ?_ ?_ <;> intros | refine aI (by omega) ?_ | refine dq ?_)
    exact ⟨z0, 131, rfl, hj, EO.zero _ _, Chg.later (l03.trans (l4)) c9 (by intro j hj; rw [List.mem_singleton.1 hj]; omega)⟩
  rw [decide_eq_true hc]
  by_cases hn : 1048576 < x.n + y.n
  · have hj : JR x y z0 121 := .inr (.inl ⟨hc, by rw [jn_abs, if_pos hn], rfl, rfl⟩)
    repeat' (first | (simp (disch := omega) only [push_cast, seval, a2, a3, b2, b3, addr_add_eq, Nat.zero_add]) | refine iX ?_ ?_ <;> intros | refine aI (by omega) ?_ | refine dq ?_)
    refine vStore_blk (l := [.int .i64 0, .slice none 0 0, .int .i64 0, .slice none 0 0]) (xs := elC z0) (B3.chg (Chg.of_later (ks := []) (l4)) (by simp)) rfl rfl (elC_one (EO.zero w4 0).is) ?_
    intro w9 B9 c9
    repeat' (first | (simp (disch := omega) only [push_cast, seval]) | refine iX ?_ ?_ <;> intros | refine aI (by omega) ?_ | refine dq ?_)
    refine resK_cells (s := 4) (by simp (disch := omega) only [push_cast, seval]) (by rw [Tryz.underlying55]; exact sz55) (Blk.cellsAt (l := elC z0) B9) ?_
    repeat' (first | (simp (disch := omega) only [push_cast, seval]) | refine iX ?_ ?_ <;> intros | refine aI (by omega) ?_ | refine dq ?_)
    exact ⟨z0, 121, rfl, hj, EO.zero _ _, Chg.later (l03.trans (l4)) c9 (by intro j hj; rw [List.mem_singleton.1 hj]; omega)⟩
  repeat' (first | (simp (disch := omega) only [push_cast, seval, a2, a3, b2, b3, addr_add_eq, Nat.zero_add]) | refine iX ?_ ?_ <;> intros | refine aI (by omega) ?_ | fail)
  refine drawn_k 13 ?_
  repeat' (first | (simp (disch := omega) only [push_cast, seval, a0, a1, a2, b2, addr_add_eq, Nat.zero_add]) | refine iX ?_ ?_ <;> intros | refine aI (by omega) ?_ | fail)
  have hsz4 : w.heap.size ≤ w4.heap.size := (l03.trans l4).size
  refine nB_of _ (Lit0 w.heap.size) (stb_lit0 _ _) (fun w' hl => ?_) ?_
  · repeat' (first | (simp (disch := omega) only [push_cast, seval]) | refine iX ?_ ?_ <;> intros | refine aI (by omega) ?_ | fail)
    exact ⟨later_alloc _ _, ⟨_, rfl⟩, own_lit w' [] _ 1 0 rfl (by unfold maxLen; omega) (Nat.le_trans hsz4 hl.size)⟩
  repeat' (first | (simp (disch := omega) only [push_cast, seval, a0, a1, a2, b2, addr_add_eq, Nat.zero_add]) | refine iX ?_ ?_ <;> intros | refine aI (by omega) ?_ | fail)
  refine nR_app (fun v w' => OwnS w' w.heap.size v x.d) (stb_ownS _ _ _) (fun σ' w' hl hp => ?_) ?_
  · obtain ⟨hp26, hp28, _⟩ := hp
    obtain ⟨⟨lb, h26⟩, h26o⟩ : Lit0 w.heap.size (σ' 26) w' := hp26
    have h28 : σ' 28 = x.dv := hp28
    have hxs := (hx4.later hl).1
    have hsn : SlN w' 1 x.dv x.d.length (x.d.map Value.string) := by
      have := hxs
      unfold StS Sl at this
      rwa [List.length_map] at this
    rw [h26] at h26o
    repeat' (first | (simp (disch := omega) only [push_cast, seval, h28, h26]) | refine iX ?_ ?_ <;> intros | refine aI (by omega) ?_ | fail)
    refine vAppend_fresh Tryz.underlying22 ti9 rfl (by decide) hsn (by unfold maxLen; omega) (by omega) ?_
    intro v' w'' h0 h1
    rcases Nat.eq_zero_or_pos x.d.length with hz | hz
    · obtain ⟨rfl, rfl⟩ := h0 hz
      have : x.d = [] := List.length_eq_zero_iff.1 hz
      rw [this]
      exact ⟨Later.refl _, h26o⟩
    · obtain ⟨ho, hll⟩ := h1 hz
      exact ⟨hll, own_base ho (Nat.le_trans hsz4 hl.size)⟩
  repeat' (first | (simp (disch := omega) only [push_cast, seval, a0, a1, a2, b2, addr_add_eq, Nat.zero_add]) | refine iX ?_ ?_ <;> intros | refine aI (by omega) ?_ | fail)
  refine nR_bld (RowB w.heap.size x.t (x.n + y.n) x.d) (stb_rowB _ _ _ _ _) (fun σ' w' hl hp => ?_) ?_
  · obtain ⟨hp25, hp29, hp34, _⟩ := hp
    have h25 : σ' 25 = .int .i64 x.t := hp25
    have h29 : OwnS w' w.heap.size (σ' 29) x.d := hp29
    have h34 : σ' 34 = .int .i64 (x.n + y.n) := hp34
    obtain ⟨o3, c3, hv, _⟩ := Sl.openM (Sl.of_own h29 : Sl w' (σ' 29) (x.d.map Value.string))
    rw [hv] at h29
    repeat' (first | (simp (disch := omega) only [push_cast, seval, h25, hv, h34]) | refine iX ?_ ?_ <;> intros | refine aI (by omega) ?_ | fail)
    exact ⟨Later.refl _, _, rfl, h29⟩
  repeat' (first | (simp (disch := omega) only [push_cast, seval]) | refine iX ?_ ?_ <;> intros | refine aI (by omega) ?_ | fail)
  refine nA_of _ (PtV w4 55 #[.int .i64 0, .slice none 0 0, .int .i64 0, .slice none 0 0]) (stb_pt _ _ _ _) (fun w' hl => ?_) ?_
  · repeat' (first | (simp (disch := omega) only [push_cast, seval]) | refine iX ?_ ?_ <;> intros | refine aI (by omega) ?_ | fail)
    exact ⟨later_alloc _ _, w'.heap.size, rfl, hl.size, Blk.new _ _ _⟩
  repeat' (first | (simp (disch := omega) only [push_cast, seval]) | refine iX ?_ ?_ <;> intros | refine aI (by omega) ?_ | fail)
  rintro w5 l5 _ ⟨b, rfl, hb4, Bb⟩ _ ⟨u, rfl, hu⟩ _ _ _ _
  obtain ⟨ou, cu, rfl, _⟩ := Sl.openM (Sl.of_own hu : Sl w5 u (x.d.map Value.string))
  have hE0 : EO w5 w.heap.size ⟨x.t, x.d, x.n + y.n, [], .slice ou x.d.length cu, .slice none 0 0⟩ := ⟨hu, OwnR.nil _ _ _⟩
  generalize hU : Value.slice ou x.d.length cu = U at *
  refine vStore_blk (l := [.int .i64 0, .slice none 0 0, .int .i64 0, .slice none 0 0]) (xs := elC ⟨x.t, x.d, x.n + y.n, [], U, .slice none 0 0⟩) Bb rfl rfl (elC_one hE0.is) ?_
  intro w6 Bb6 c6
  have l35 := l4.trans l5
  have hb2 : w.heap.size + 2 < b := Nat.lt_of_lt_of_le hbig (Nat.le_trans l4.size hb4)
  have B35 := B3.chg (Chg.of_later (ks := []) l35) (by simp)
  obtain ⟨_, _, bx5, by5, _⟩ := G w5 l35
  have J0 : JS w w6 b x y U 0 := ⟨by omega, Chg.later (l03.trans l35) c6 (by intro j hj; rw [List.mem_singleton.1 hj]; omega), bx5.chg c6 (by simp; omega), by5.chg c6 (by simp; omega), B35.chg c6 (by simp; omega), [], .slice none 0 0, Bb6, hE0.chg Bb c6, by simp [jaggs]⟩
  clear hE0 Bb6 c6 Bb B35 bx5 by5 G hx4 hy4 a0 a1 a2 a3 a4 b0 b1 b2 b3 b4 hx3 hy3 B3 l2 l3 l03 l4 l5 l35 hu hs
  have f3 : w6.cell? ⟨w.heap.size, 3, none⟩ = some (.slice ox x.a.length cx) := by have := J0.bx.cell 3; rw [← hax]; exact this
  repeat' (first | (simp (disch := omega) only [push_cast, seval, f3, addr_add_eq, Nat.zero_add]) | refine iX ?_ ?_ <;> intros | refine aI (by omega) ?_ | refine dq ?_)
  clear f3
  have fin : ∀ w' z e, JR x y z e → EO w' w.heap.size z → Later w w' → ∃ z e', Value.tuple #[elV z, .int .i64 e] = .tuple #[elV z, .int .i64 e'] ∧ True := fun w' z e _ _ _ => ⟨z, e, rfl, trivial⟩
  refine vc_loop W74_0 (fun i : Nat => [(8, .int .i64 (i : Int))]) (fun i w' => JS w w' b x y U i) (fun i => x.a.length - i) 0 (by decide) ?_ ?_ ?_
  · simp (disch := omega) only [push_cast, seval]
  · exact J0
  clear J0 fin
  rintro i uu w7 J
  have hle := J.le
  have hx7 := (hx.later J.later).2
  have hy7 := (hy.later J.later).2
  rw [hax] at hx7
  rw [hay] at hy7
  by_cases hlt : i < x.a.length
  · have hlt2 : i < y.a.length := by omega
    obtain ⟨lst, av, Bc, hE, hjl⟩ := J.cur
    have hstep := jaggs_step hl hlt hlt2 hjl
    have hAa := ra _ (List.getElem_mem hlt)
    have hAc := sa _ (List.getElem_mem hlt2)
    obtain ⟨aa, rfl, f1⟩ := RecS.at agC_len hx7 hlt
    obtain ⟨bb, rfl, f2⟩ := RecS.at agC_len hy7 hlt2
    have g3 : w7.cell? ⟨w.heap.size + 1, 3, none⟩ = some (.slice (some bb) y.a.length cy) := by have := J.by_.cell 3; rw [← hay]; exact this
    generalize x.a[i] = a at *
    generalize y.a[i] = c at *
    have g2 : w7.cell? ⟨w.heap.size, 3, none⟩ = some (.slice (some aa) x.a.length cx) := by have := J.bx.cell 3; rw [← hax]; exact this
    have J8 := J
    repeat' (first | (simp (disch := omega) only [push_cast, seval, g2, addr_add_eq, Nat.zero_add]) | refine iX ?_ ?_ <;> intros | refine aI (by omega) ?_ | fail)
    refine drawnS_k 15 ?_
    repeat' (first | (simp (disch := omega) only [push_cast, seval, g2, f1, g3, f2, addr_add_eq, Nat.zero_add]) | refine iX ?_ ?_ <;> intros | refine aI (by omega) ?_ | fail)
    refine NFn.fix hb117 (v := jnV a c) (fun w' _ => cajoin_c a c w' hAa hAc) ?_
    by_cases hf : Fi (a.1 + c.1)
    · have jt : jnV a c = .tuple #[agV (ajn a c), .int .i64 0] := if_pos hf
      rw [jt]
      repeat' (first | (simp (disch := omega) only [push_cast, seval]) | refine iX ?_ ?_ <;> intros | refine aI (by omega) ?_ | fail)
      refine nA_of _ (PtV w7 52 #[.int .i64 0, .int .i64 0, .int .i64 0]) (stb_pt _ _ _ _) (fun w' hl => ?_) ?_
      · repeat' (first | (simp (disch := omega) only [push_cast, seval]) | refine iX ?_ ?_ <;> intros | refine aI (by omega) ?_ | fail)
        exact ⟨later_alloc _ _, w'.heap.size, rfl, hl.size, Blk.new _ _ _⟩
      repeat' (first | (simp (disch := omega) only [push_cast, seval]) | refine iX ?_ ?_ <;> intros | refine aI (by omega) ?_ | fail)
      refine ⟨rfl, fun w9 l9 => ?_⟩
      rintro _ ⟨b9, rfl, hb9, B9⟩
      refine ⟨by simp (disch := omega) only [push_cast, seval, implies_true, and_self], ?_⟩
      repeat' (first | (simp (disch := omega) only [push_cast, seval]) | refine iX ?_ ?_ <;> intros | refine aI (by omega) ?_ | fail)
      refine vStore_blk (l := [.int .i64 0, .int .i64 0, .int .i64 0]) (xs := agC (ajn a c)) B9 rfl rfl (agC_one _) ?_
      intro w10 B10 c10
      have l810 := Chg.later l9 c10 (by intro j hj; rw [List.mem_singleton.1 hj]; exact hb9)
      have J10 := J8.step l810
      have f10 : cellsAt w10 ⟨b9, 0, none⟩ 3 = some (agC (ajn a c)) := Blk.cellsAt (l := agC (ajn a c)) B10
      clear c10 B9 l9 hb9 J8
      obtain ⟨_, hla, hbx, hby, hbz, lst', av', Bc', hE', hjl'⟩ := J10
      have hll : lst' = lst := by rw [hjl] at hjl'; exact (Option.some.inj hjl').symm
      subst hll
      obtain ⟨oa, ca, hav, _⟩ := RecS.slice (OwnR.s hE'.2)
      have hav : av' = .slice oa lst'.length ca := hav
      subst hav
      have hll2 := jaggs_len _ _ _ (by simp; omega) hjl'
      rw [List.length_take] at hll2
      have f11 : w10.cell? ⟨b, 3, none⟩ = some (.slice oa lst'.length ca) := Bc'.cell 3
      have f10' : cellsAt w10 ⟨b9, 0, none⟩ 3 = some [.int .i64 (ajn a c).1, .int .i64 (ajn a c).2.1, .int .i64 (ajn a c).2.2] := f10
      repeat' (first | (simp (disch := omega) only [push_cast, seval, f10', f11, addr_add_eq, Nat.zero_add]) | refine iX ?_ ?_ <;> intros | refine aI (by omega) ?_ | refine dq ?_)
      have la := later_alloc w10 (.cells #[.int .i64 (ajn a c).1, .int .i64 (ajn a c).2.1, .int .i64 (ajn a c).2.2] 52)
      have Bl := Blk.new w10 #[.int .i64 (ajn a c).1, .int .i64 (ajn a c).2.1, .int .i64 (ajn a c).2.2] 52
      have hEa := hE'.later la
      have hOA : OwnA (w10.alloc (.cells #[.int .i64 (ajn a c).1, .int .i64 (ajn a c).2.1, .int .i64 (ajn a c).2.2] 52)) w.heap.size (.slice oa lst'.length ca) lst' := hEa.2
      refine vAppend_rs agC_len agC_one Tryz.underlying53 ti52 rfl (by decide) hOA (RecS.lit1 (agC_len _) Bl) (by simp; omega) (by omega) (Nat.le_trans hla.size la.size) ?_
      intro v' w12 ho hg _
      have cl := Chg.of_later (ks := []) la
      have q1 : Blk w12 _ _ 55 := grown_obj hOA hg (hbx.chg cl (by simp)) (fun cs h => by simp at h)
      have q2 : Blk w12 _ _ 55 := grown_obj hOA hg (hby.chg cl (by simp)) (fun cs h => by simp at h)
      have q3 : Blk w12 _ _ 55 := grown_obj hOA hg (hbz.chg cl (by simp)) (fun cs h => by simp at h)
      have q4 : Blk w12 b _ 55 := grown_obj hOA hg (Bc'.chg cl (by simp)) (fun cs h => by simp at h)
      have q5 := (hla.trans la).appended hOA (Nat.le_refl _) hg
      have q6 : OwnS w12 w.heap.size U x.d := ownS_grown hEa.1 hOA hg
      obtain ⟨o2, c2, hv2, _⟩ := RecS.slice (OwnR.s ho)
      subst hv2
      have hfz := q4.frozen 3
      have hce : ∃ y, w12.cell? ⟨b, 3, none⟩ = some y := ⟨_, q4.cell 3⟩
      have gc := chg_setCell (i := 3) w12 (ks := [b]) (k := b) (by simp) (.slice o2 (lst' ++ [ajn a c]).length c2)
      have z5 := q4.set 3 (.slice o2 (lst' ++ [ajn a c]).length c2)
      repeat' (first | (simp (disch := omega) only [push_cast, seval, hfz, hce, addr_add_eq, Nat.zero_add]) | refine iX ?_ ?_ <;> intros | refine aI (by omega) ?_ | refine dq ?_)
      have hJ : JS w (w12.setCell ⟨b, 3, none⟩ (.slice o2 (lst' ++ [ajn a c]).length c2)) b x y U (i + 1) :=
        ⟨by omega, gc.later q5 (by intro j hj; rw [List.mem_singleton.1 hj]; omega), q1.chg gc (by simp; omega), q2.chg gc (by simp; omega), q3.chg gc (by simp; omega), lst' ++ [ajn a c], _, z5, ⟨own_chg_ty q6 q4 (by decide) gc, own_chg_ty ho q4 (by decide) gc⟩, hstep.1 hf⟩
      exact ⟨rfl, i + 1, by simp (disch := omega) only [push_cast, seval], hJ, by dsimp only; omega⟩
    · have jt : jnV a c = .tuple #[agV (0, 0, 0), .int .i64 121] := if_neg hf
      have hj : JR x y z0 121 := .inr (.inl ⟨hc, by rw [jn_abs, if_neg hn, hstep.2 hf]; rfl, rfl, rfl⟩)
      rw [jt]
      repeat' (first | (simp (disch := omega) only [push_cast, seval]) | refine iX ?_ ?_ <;> intros | refine aI (by omega) ?_ | fail)
      refine nA_of _ (PtV w7 52 #[.int .i64 0, .int .i64 0, .int .i64 0]) (stb_pt _ _ _ _) (fun w' hl => ?_) ?_
      · repeat' (first | (simp (disch := omega) only [push_cast, seval]) | refine iX ?_ ?_ <;> intros | refine aI (by omega) ?_ | fail)
        exact ⟨later_alloc _ _, w'.heap.size, rfl, hl.size, Blk.new _ _ _⟩
      repeat' (first | (simp (disch := omega) only [push_cast, seval]) | refine iX ?_ ?_ <;> intros | refine aI (by omega) ?_ | fail)
      refine ⟨rfl, fun w9 l9 => ?_⟩
      rintro _ ⟨b9, rfl, hb9, B9⟩
      refine ⟨by simp (disch := omega) only [push_cast, seval, implies_true, and_self], ?_⟩
      repeat' (first | (simp (disch := omega) only [push_cast, seval]) | refine iX ?_ ?_ <;> intros | refine aI (by omega) ?_ | fail)
      refine vStore_blk (l := [.int .i64 0, .int .i64 0, .int .i64 0]) (xs := agC (0, 0, 0)) B9 rfl rfl (agC_one _) ?_
      intro w10 B10 c10
      have l810 := Chg.later l9 c10 (by intro j hj; rw [List.mem_singleton.1 hj]; exact hb9)
      have J10 := J8.step l810
      have f10 : cellsAt w10 ⟨b9, 0, none⟩ 3 = some (agC (0, 0, 0)) := Blk.cellsAt (l := agC (0, 0, 0)) B10
      clear c10 B9 l9 hb9 J8
      repeat' (first | (simp (disch := omega) only [push_cast, seval]) | refine iX ?_ ?_ <;> intros | refine aI (by omega) ?_ | refine dq ?_)
      refine vStore_blk (l := [.int .i64 0, .slice none 0 0, .int .i64 0, .slice none 0 0]) (xs := elC z0) J10.bz rfl rfl (elC_one (EO.zero w10 0).is) ?_
      intro w11 B11 c11
      repeat' (first | (simp (disch := omega) only [push_cast, seval]) | refine iX ?_ ?_ <;> intros | refine aI (by omega) ?_ | refine dq ?_)
      refine resK_cells (s := 4) (by simp (disch := omega) only [push_cast, seval]) (by rw [Tryz.underlying55]; exact sz55) (Blk.cellsAt (l := elC z0) B11) ?_
      repeat' (first | (simp (disch := omega) only [push_cast, seval]) | refine iX ?_ ?_ <;> intros | refine aI (by omega) ?_ | refine dq ?_)
      exact ⟨z0, 121, rfl, hj, EO.zero _ _, Chg.later J10.later c11 (by intro j hj; rw [List.mem_singleton.1 hj]; omega)⟩
  · have hi : i = x.a.length := by omega
    subst hi
    obtain ⟨lst, av, Bc, hE, hjl⟩ := J.cur
    rw [List.take_length, hl, List.take_length] at hjl
    have hj : JR x y ⟨x.t, x.d, x.n + y.n, lst, U, av⟩ 0 := .inr (.inr ⟨hc, rfl, by rw [jn_abs, if_neg hn, hjl]; rfl⟩)
    have f4 : cellsAt w7 ⟨b, 0, none⟩ 4 = some (elC ⟨x.t, x.d, x.n + y.n, lst, U, av⟩) := Blk.cellsAt (l := elC ⟨x.t, x.d, x.n + y.n, lst, U, av⟩) Bc
    have g2 : w7.cell? ⟨w.heap.size, 3, none⟩ = some (.slice ox x.a.length cx) := by have := J.bx.cell 3; rw [← hax]; exact this
    repeat' (first | (simp (disch := omega) only [push_cast, seval, f4, g2, addr_add_eq, Nat.zero_add]) | refine iX ?_ ?_ <;> intros | refine aI (by omega) ?_ | refine dq ?_)
    refine vStore_blk (l := [.int .i64 0, .slice none 0 0, .int .i64 0, .slice none 0 0]) (xs := elC ⟨x.t, x.d, x.n + y.n, lst, U, av⟩) J.bz rfl rfl (elC_one hE.is) ?_
    intro w11 B11 c11
    repeat' (first | (simp (disch := omega) only [push_cast, seval]) | refine iX ?_ ?_ <;> intros | refine aI (by omega) ?_ | refine dq ?_)
    refine resK_cells (s := 4) (by simp (disch := omega) only [push_cast, seval]) (by rw [Tryz.underlying55]; exact sz55) (Blk.cellsAt (l := elC ⟨x.t, x.d, x.n + y.n, lst, U, av⟩) B11) ?_
    repeat' (first | (simp (disch := omega) only [push_cast, seval]) | refine iX ?_ ?_ <;> intros | refine aI (by omega) ?_ | refine dq ?_)
    exact ⟨⟨x.t, x.d, x.n + y.n, lst, U, av⟩, 0, rfl, hj, hE.chg J.bz c11, Chg.later J.later c11 (by intro j hj; rw [List.mem_singleton.1 hj]; omega)⟩
end Go.Proofs.YtnofalhkapmcnaaGreat
end
section
set_option linter.unusedSimpArgs false
namespace Go.Vc
variable {α : Type} {enc : α → List Value} {k : Nat}
theorem rec_take (hk : ∀ x, (enc x).length = k) (l : List α) : ∀ j : Nat, (l.map enc).flatten.take (j * k) = ((l.take j).map enc).flatten := by
  induction l with
  | nil => intro j; simp
  | cons p l ih =>
    intro j
    cases j with
    | zero => simp
    | succ j =>
      simp only [List.map_cons, List.flatten_cons, List.take_succ_cons]
      rw [List.take_append, hk, List.take_of_length_le (by rw [hk, Nat.add_mul]; omega), show (j + 1) * k - k = j * k by rw [Nat.add_mul]; omega, ih]
theorem rec_drop (hk : ∀ x, (enc x).length = k) (l : List α) : ∀ j : Nat, (l.map enc).flatten.drop (j * k) = ((l.drop j).map enc).flatten := by
  induction l with
  | nil => intro j; simp
  | cons p l ih =>
    intro j
    cases j with
    | zero => simp
    | succ j =>
      simp only [List.map_cons, List.flatten_cons, List.drop_succ_cons]
      rw [List.drop_append, hk, List.drop_of_length_le (by rw [hk, Nat.add_mul]; omega), show (j + 1) * k - k = j * k by rw [Nat.add_mul]; omega, ih, List.nil_append]
theorem RecS.pre (hk : ∀ x, (enc x).length = k) {w : World} {o : Option Addr} {n c : Nat} {l : List α} (h : RecS enc k w (.slice o n c) l) {j : Nat} (hj : j ≤ l.length) : RecS enc k w (.slice o j c) (l.take j) := by
  have hn := (SlN.len h).1
  subst hn
  have := SlN.preN h hj
  rw [rec_take hk] at this
  unfold RecS
  rw [List.length_take, Nat.min_eq_left hj]
  exact this
theorem RecS.from (hk : ∀ x, (enc x).length = k) {w : World} {o : Option Addr} {n c : Nat} {l : List α} (h : RecS enc k w (.slice o n c) l) {j : Nat} (hj : j ≤ l.length) : RecS enc k w (.slice (slAddr o j c k) (l.length - j) ((c : Int) - j).toNat) (l.drop j) := by
  obtain ⟨hn, hc, hm, hl, _⟩ := SlN.len h
  subst hn
  have := SlN.part h (l := (j : Int)) (k := (l.length : Int)) (m := (c : Int)) (by omega) (by omega) (by omega) (by omega) (by omega)
  rw [Int.toNat_natCast, Int.toNat_natCast, ← hl, List.take_length, rec_drop hk, show ((l.length : Int) - (j : Int)).toNat = l.length - j by omega] at this
  unfold RecS
  rw [List.length_drop]
  exact this
end Go.Vc
namespace Go.Proofs.YtnofalhkapmcnaaGreat
open Go.Vc Go.Key Go.Stab Go.Fold
set_option maxRecDepth 100000
def FoldD (D A : Nat) (w : World) (v : Value) (e : Int) (l : List R) : Prop := (e = 121 ∧ v = .slice none 0 0 ∧ Bad l) ∨ (e = 0 ∧ ∃ es, RecS elC 4 w v es ∧ F l (es.map El.abs) ∧ ∀ z ∈ es, EIs w z ∧ Gd D A z.abs)
set_option maxHeartbeats 2000000 in
theorem dfold_c (D A : Nat) (v : Value) (l : List El) (w : World) (h : RecS elC 4 w v l) (hes : ∀ e ∈ l, EIs w e ∧ Gd D A e.abs) (hl : l.length ≤ 100000) : FnC Tryz.prog 31 #[v] w fun r w' =>
    ∃ vv e, r = .tuple #[vv, .int .i64 e] ∧ FoldD D A w' vv e (l.map El.abs) ∧ Later w w' := by
  obtain ⟨o, c, rfl, g1, g2⟩ := h.slice
  refine enter31 _ ?_
  unfold B31
  repeat' (first | (simp (disch := omega) only [push_cast, seval]) | refine iX ?_ ?_ <;> intros | refine aI (by omega) ?_ | refine dq ?_)
  refine vc_loop W31_0 (fun p : Nat × Value => [(2, .slice none 0 0), (3, .int .i64 0), (4, p.2), (5, .int .i64 (p.1 : Int))])
    (fun p w' => p.1 ≤ l.length ∧ Later w w' ∧ ∃ os, RecS elC 4 w' p.2 os ∧ os.length ≤ p.1 ∧ F ((l.take p.1).map El.abs) (os.map El.abs) ∧ ∀ z ∈ os, EIs w' z ∧ Gd D A z.abs) (fun p => l.length - p.1) (0, .slice none 0 0) (by decide) ?_ ?_ ?_
  · simp (disch := omega) only [push_cast, seval]
  · exact ⟨by omega, Later.refl _, [], RecS.nil _, by simp, F.start, by simp⟩
  rintro ⟨i, ov⟩ uu w1 ⟨hi, l1, os, hO, hosl, hF, hZ⟩
  dsimp only at hi hO hF hosl
  by_cases hlt : i < l.length
  · obtain ⟨aa, rfl, f1⟩ := RecS.at elC_len (h.later l1) hlt
    have hEr := (hes l[i] (List.getElem_mem _)).1.later l1
    have hGr := (hes l[i] (List.getElem_mem _)).2
    have htk : (l.take (i + 1)).map El.abs = (l.take i).map El.abs ++ [l[i].abs] := by rw [take_snoc l i hlt, List.map_append]; rfl
    have hbad : Bad ((l.take (i + 1)).map El.abs) → Bad (l.map El.abs) := by
      intro hb
      have := hb.more ((l.drop (i + 1)).map El.abs)
      rwa [← List.map_append, List.take_append_drop] at this
    have hGd := hGr.rr
    generalize hr : l[i] = r at *
    obtain ⟨oo, oc, hov, hoc, hoc2⟩ := RecS.slice hO
    subst hov
    repeat' (first | (simp (disch := omega) only [push_cast, seval]) | refine iX ?_ ?_ <;> intros | refine aI (by omega) ?_ | refine dq ?_)
    refine vc_loop W31_1 (fun p : Nat × Bool => [(6, .int .i64 (p.1 : Int)), (7, .bool p.2)])
      (fun p w' => p.1 ≤ os.length ∧ Later w1 w' ∧ (∀ j (hj : j < os.length), j < p.1 → elt os[j] r = true) ∧ (p.2 = false → ∃ hp : p.1 < os.length, elt os[p.1] r = false)) (fun p => 2 * (os.length - p.1) + p.2.toNat) (0, true) (by decide) ?_ ?_ ?_
    · simp (disch := omega) only [push_cast, seval]
    · exact ⟨by omega, Later.refl _, fun j _ hj => absurd hj (Nat.not_lt_zero _), fun hh => by cases hh⟩
    rintro ⟨k, b⟩ uu2 w2 ⟨hk, l2, hA, hB⟩
    dsimp only at hk hA hB
    have f2 := cellsAt_later l2 4 f1
    have hAA : ∀ a ∈ (os.take k).map El.abs, rlt a r.abs = true := by
      intro a ha
      obtain ⟨e, he, rfl⟩ := List.mem_map.1 ha
      obtain ⟨j, hj, rfl⟩ := List.getElem_of_mem he
      rw [List.length_take] at hj
      rw [List.getElem_take]
      exact hA j (by omega) (by omega)
    by_cases hkl : k < os.length
    · obtain ⟨ab, hab, fk⟩ := RecS.at elC_len (hO.later l2) hkl
      subst hab
      have hzk := (hZ os[k] (List.getElem_mem _)).1.later l2
      have hGz := (hZ os[k] (List.getElem_mem _)).2
      cases b with
      | true =>
        clear hB hAA
        repeat' (first | (simp (disch := omega) only [push_cast, seval, fk, f2]) | refine iX ?_ ?_ <;> intros | refine aI (by omega) ?_ | refine dq ?_)
        refine QFn.of hb72 (v := .bool (elt os[k] r)) (fun w' hl => less_c _ _ w' (hzk.later hl) ((hEr.later l2).later hl) (by have := hGz.rr.2.1; have := hGr.rr.2.1; omega)) ?_
        cases hel : elt os[k] r with
        | true =>
          repeat' (first | (simp (disch := omega) only [push_cast, seval]) | refine iX ?_ ?_ <;> intros | refine aI (by omega) ?_ | refine dq ?_)
          intro w3 l3
          repeat' (first | (simp (disch := omega) only [push_cast, seval]) | refine iX ?_ ?_ <;> intros | refine aI (by omega) ?_ | refine dq ?_)
          refine ⟨rfl, (k + 1, true), by simp (disch := omega) only [push_cast, seval], ⟨by dsimp only; omega, l2.trans l3, fun j hj hjk => ?_, fun hh => by cases hh⟩, by dsimp only; omega⟩
          by_cases hjk' : j < k
          · exact hA j hj hjk'
          · have : j = k := by dsimp only at hjk; omega
            subst this
            exact hel
        | false =>
          repeat' (first | (simp (disch := omega) only [push_cast, seval]) | refine iX ?_ ?_ <;> intros | refine aI (by omega) ?_ | refine dq ?_)
          intro w3 l3
          repeat' (first | (simp (disch := omega) only [push_cast, seval]) | refine iX ?_ ?_ <;> intros | refine aI (by omega) ?_ | refine dq ?_)
          exact ⟨rfl, (k, false), by simp (disch := omega) only [push_cast, seval], ⟨by dsimp only; omega, l2.trans l3, hA, fun _ => ⟨hkl, hel⟩⟩, by simp⟩
      | false =>
        obtain ⟨_, hel⟩ := hB rfl
        generalize hz : os[k] = z at *
        repeat' (first | (simp (disch := omega) only [push_cast, seval, f2]) | refine iX ?_ ?_ <;> intros | refine aI (by omega) ?_ | refine dq ?_)
        have hr2 := hEr.later l2
        refine vStore_new rfl rfl (by simpa using elC_one hr2) ?_
        have l3 := later_alloc w2 (.cells (elC r).toArray 55)
        have B3 := Blk.new w2 (elC r).toArray 55
        generalize w2.alloc (.cells (elC r).toArray 55) = w3 at *
        generalize hk4 : w2.heap.size = k4 at *
        have f3 : cellsAt w3 ⟨k4, 0, none⟩ 4 = some (elC r) := Blk.cellsAt (l := elC r) B3
        have hr3 := hr2.later l3
        have g3 := cellsAt_later l3 4 f2

        have gk := cellsAt_later l3 4 fk
        have hz3 := hzk.later l3
        repeat' (first | (simp (disch := omega) only [push_cast, seval, gk, g3]) | refine iX ?_ ?_ <;> intros | refine aI (by omega) ?_ | refine dq ?_)
        refine QFn.of hb73 (v := .bool (decide (ecmp z r = 0))) (fun w' hl => onekey_c z r w' (hz3.later hl) (hr3.later hl)) ?_
        by_cases hc : ecmp z r = 0
        · rw [decide_eq_true hc]
          repeat' (first | (simp (disch := omega) only [push_cast, seval]) | refine iX ?_ ?_ <;> intros | refine aI (by omega) ?_ | refine dq ?_)
          intro w5 l5
          have l25 := l3.trans l5
          have f5 := cellsAt_later l5 4 f3
          have gk5 := cellsAt_later l5 4 gk
          have g5 := cellsAt_later l5 4 g3
          have hz5 := hzk.later (l3.trans l5)
          have hr5 := hr3.later l5
          obtain ⟨rz, dz, az⟩ := hGz.rr
          obtain ⟨rr, dr, ar⟩ := hGr.rr
          repeat' (first | (simp (disch := omega) only [push_cast, seval]) | refine iX ?_ ?_ <;> intros | refine aI (by omega) ?_ | fail)
          refine drawnS_k 13 ?_
          repeat' (first | (simp (disch := omega) only [push_cast, seval, gk5, g5]) | refine iX ?_ ?_ <;> intros | refine aI (by omega) ?_ | fail)
          refine NFn.of hb74 (JV w5.heap.size z r) (stb_jv _ _ _ _) (fun w' hl => (djoin_c z r w' (hz5.later hl) (hr5.later hl) rz rr (by omega)).mono ?_) ?_
          · rintro v w'' ⟨q, e, rfl, hj, hE, hl'⟩
            exact ⟨⟨q, e, rfl, hj, hE.base hl.size⟩, hl'⟩
          repeat' (first | (simp (disch := omega) only [push_cast, seval]) | refine iX ?_ ?_ <;> intros | refine aI (by omega) ?_ | fail)
          refine nR_move (t := 69) (by simp) rfl (stb_jv _ _ _ _) ?_
          repeat' (first | (simp (disch := omega) only [push_cast, seval]) | refine iX ?_ ?_ <;> intros | refine aI (by omega) ?_ | fail)
          refine nR_ext (t := 60) (V := JV w5.heap.size z r) (V' := JE w5.heap.size z r) (by simp) rfl (stb_je _ _ _ _) (fun v w' hv => ?_) ?_
          · obtain ⟨q, e, rfl, hj, hE⟩ := hv
            exact ⟨_, rfl, elV q, rfl, q, e, rfl, hj, hE⟩
          repeat' (first | (simp (disch := omega) only [push_cast, seval]) | refine iX ?_ ?_ <;> intros | refine aI (by omega) ?_ | fail)
          refine nR_extc (t := 60) (V := JV w5.heap.size z r) (u := .int .i64 (eJ z r)) (by simp) rfl (fun v w' hv => ?_) ?_
          · obtain ⟨q, e, rfl, hj, hE⟩ := hv
            exact ⟨_, rfl, by rw [eJ_is hc hj]; rfl⟩
          repeat' (first | (simp (disch := omega) only [push_cast, seval]) | refine iX ?_ ?_ <;> intros | refine aI (by omega) ?_ | fail)
          refine nA_of _ (PtV w5 55 #[.int .i64 0, .slice none 0 0, .int .i64 0, .slice none 0 0]) (stb_pt _ _ _ _) (fun w' hl => ?_) ?_
          · repeat' (first | (simp (disch := omega) only [push_cast, seval]) | refine iX ?_ ?_ <;> intros | refine aI (by omega) ?_ | fail)
            exact ⟨later_alloc _ _, w'.heap.size, rfl, hl.size, Blk.new _ _ _⟩
          repeat' (first | (simp (disch := omega) only [push_cast, seval]) | refine iX ?_ ?_ <;> intros | refine aI (by omega) ?_ | fail)
          refine ⟨rfl, fun w6 l6 => ?_⟩
          rintro _ ⟨b8, rfl, hb8, B8⟩ _ ⟨q, e, rfl, hj, hq⟩ _ ⟨q2, e2, rfl, hj2, _⟩ _ _
          have ee2 : eJ z r = e2 := eJ_is hc hj2
          have ee : eJ z r = e := eJ_is hc hj
          refine ⟨by simp (disch := omega) only [push_cast, seval, ee2, implies_true, and_self], ?_⟩
          unfold elV
          repeat' (first | (simp (disch := omega) only [push_cast, seval]) | refine iX ?_ ?_ <;> intros | refine aI (by omega) ?_ | fail)
          refine vStore_blk (l := [.int .i64 0, .slice none 0 0, .int .i64 0, .slice none 0 0]) (xs := elC q) B8 rfl rfl (elC_one hq.is) ?_
          intro w7 B7 c7
          have l57 := Chg.later l6 c7 (by intro j hj; rw [List.mem_singleton.1 hj]; exact hb8)
          have hq7 := hq.chg B8 c7
          have l27 := l25.trans l57
          have hsame : Same z.abs r.abs := cmp_zero.1 hc
          have hdk : os = os.take k ++ z :: os.drop (k + 1) := by
            rw [← hz, ← List.drop_eq_getElem_cons hkl, List.take_append_drop]
          have hjoin := F.join (l := (l.take i).map El.abs) (A := (os.take k).map El.abs) (B := (os.drop (k + 1)).map El.abs) (b := z.abs) (r := r.abs) (by
            have := hF
            rw [hdk, List.map_append, List.map_cons] at this
            exact this) hsame
          rw [← htk] at hjoin
          rcases hj with ⟨h1, _⟩ | ⟨_, h2, h3, _⟩ | ⟨_, h2, h3⟩
          · exact absurd hc h1
          · rw [ee, h3]
            repeat' (first | (simp (disch := omega) only [push_cast, seval]) | refine iX ?_ ?_ <;> intros | refine aI (by omega) ?_ | refine dq ?_)
            exact ⟨.slice none 0 0, 121, rfl, .inl ⟨rfl, rfl, hbad (hjoin.1 h2)⟩, (l1.trans l2).trans l27⟩
          · rw [ee, h2]
            have B37 := B3.chg (Chg.of_later (ks := []) (l5.trans l57)) (by simp)
            have f7 : cellsAt w7 ⟨b8, 0, none⟩ 4 = some (elC q) := Blk.cellsAt (l := elC q) B7
            repeat' (first | (simp (disch := omega) only [push_cast, seval, f7]) | refine iX ?_ ?_ <;> intros | refine aI (by omega) ?_ | refine dq ?_)
            refine vStore_blk (l := elC r) (xs := elC q) B37 rfl rfl (elC_one hq7.is) ?_
            intro w8x B8x c8
            have l28 : Later w2 w8x := Chg.later l27 c8 (by intro j hj; rw [List.mem_singleton.1 hj]; omega)
            have hq8 := (hq7.chg B37 c8).is
            have hGq : Gd D A q.abs := hGz.join hGr h3
            have f8 : cellsAt w8x ⟨k4, 0, none⟩ 4 = some (elC q) := Blk.cellsAt (l := elC q) B8x
            have hO5 := hO.later (l2.trans l28)
            have hpre := RecS.pre elC_len hO5 (j := k) hk
            have lA := later_alloc w8x (.cells #[] 55)
            have hsA := World.size_alloc w8x (.cells #[] 55)
            have own0 : OwnE (w8x.alloc (.cells #[] 55)) w8x.heap.size (.slice (some ⟨w8x.heap.size, 0, none⟩) 0 0) [] := OwnR.lit0 w8x _ (Nat.le_refl _)
            repeat' (first | (simp (disch := omega) only [push_cast, seval]) | refine iX ?_ ?_ <;> intros | refine aI (by omega) ?_ | refine dq ?_)
            refine vAppend_fresh Tryz.underlying33 ti55 rfl (by decide) (hpre.later lA) (by unfold maxLen; simp only [List.length_take]; omega) (by simp only [List.length_take]; omega) ?_
            intro v6 w6 hz hp
            have h6 : OwnE w6 w8x.heap.size v6 (os.take k) ∧ Later w8x w6 := by
              rcases Nat.eq_zero_or_pos k with h0 | h0
              · obtain ⟨rfl, rfl⟩ := hz (by simp only [List.length_take]; omega)
                subst h0
                exact ⟨own0, lA⟩
              · obtain ⟨q1, q2⟩ := hp (by simp only [List.length_take]; omega)
                exact ⟨OwnR.base q1 (by omega), lA.trans q2⟩
            obtain ⟨ho6, l6⟩ := h6
            clear hz hp own0 hpre
            have f86 := cellsAt_later l6 4 f8
            have f86' : cellsAt w6 ⟨k4, 0, none⟩ 4 = some [.int .i64 q.t, q.dv, .int .i64 q.n, q.av] := f86
            have hx6 := hq8.later l6
            obtain ⟨o6, c6, hv6, _⟩ := RecS.slice (OwnR.s ho6)
            repeat' (first | (simp (disch := omega) only [push_cast, seval, f86']) | refine iX ?_ ?_ <;> intros | refine aI (by omega) ?_ | refine dq ?_)
            have l7 := later_alloc w6 (.cells #[.int .i64 q.t, q.dv, .int .i64 q.n, q.av] 55)
            have B7 := Blk.new w6 #[.int .i64 q.t, q.dv, .int .i64 q.n, q.av] 55
            refine vAppend_e (r := [q]) (ho6.later l7) (RecS.lit1 (elC_len q) B7) (by intro y hy; rw [List.mem_singleton.1 hy]; exact hx6.later l7) (by simp only [List.length_take, List.length_cons, List.length_nil]; omega) (Nat.le_trans l6.size l7.size) ?_
            intro v8 w8 ho8 hg8 _
            have l58 := (l6.trans l7).appended (ho6.later l7) (Nat.le_refl _) hg8
            have hO8 := hO5.later l58
            have hfrom := RecS.from elC_len hO8 (j := k + 1) (by omega)
            rw [show os.length - (k + 1) = ((os.length : Int) - ((k : Int) + 1)).toNat by omega] at hfrom
            repeat' (first | (simp (disch := omega) only [push_cast, seval]) | refine iX ?_ ?_ <;> intros | refine aI (by omega) ?_ | refine dq ?_)
            refine vAppend_e (r := os.drop (k + 1)) ho8 hfrom (by intro y hy; exact (hZ y (List.mem_of_mem_drop hy)).1.later ((l2.trans l28).trans l58)) (by simp only [List.length_append, List.length_take, List.length_drop, List.length_cons, List.length_nil]; omega) l58.size ?_
            intro v9 w9 ho9 hg9 _
            have l59 := l58.appended ho8 (Nat.le_refl _) hg9
            have hlast : F ((l.take (i + 1)).map El.abs) ((os.take k ++ [q] ++ os.drop (k + 1)).map El.abs) := by
              have := hjoin.2 q.abs h3
              simpa using this
            have hZ9 : ∀ y ∈ os.take k ++ [q] ++ os.drop (k + 1), EIs w9 y ∧ Gd D A y.abs := by
              intro y hy
              rcases List.mem_append.1 hy with hy | hy
              · rcases List.mem_append.1 hy with hy | hy
                · exact ⟨(hZ y (List.mem_of_mem_take hy)).1.later ((l2.trans l28).trans l59), (hZ y (List.mem_of_mem_take hy)).2⟩
                · rw [List.mem_singleton.1 hy]; exact ⟨hq8.later l59, hGq⟩
              · exact ⟨(hZ y (List.mem_of_mem_drop hy)).1.later ((l2.trans l28).trans l59), (hZ y (List.mem_of_mem_drop hy)).2⟩
            repeat' (first | (simp (disch := omega) only [push_cast, seval]) | refine iX ?_ ?_ <;> intros | refine aI (by omega) ?_ | refine dq ?_)
            exact ⟨rfl, (i + 1, v9), by simp (disch := omega) only [push_cast, seval], ⟨by dsimp only; omega, (l1.trans (l2.trans l28)).trans l59, _, OwnR.s ho9, by dsimp only; simp only [List.length_append, List.length_take, List.length_drop, List.length_cons, List.length_nil]; omega, hlast, hZ9⟩, by dsimp only; omega⟩

        · rw [decide_eq_false hc]
          repeat' (first | (simp (disch := omega) only [push_cast, seval]) | refine iX ?_ ?_ <;> intros | refine aI (by omega) ?_ | refine dq ?_)
          intro w5 l5
          have l25 := l3.trans l5
          have f5 := cellsAt_later l5 4 f3
          have hr5 := hr3.later l5
          have hBB : ∀ b ∈ (os.drop k).map El.abs, rlt r.abs b = true := by
            have hzr : rlt r.abs z.abs = true := by
              have hkk := ckey_is z.t z.d r.t r.d
              have h1 : ¬ ckey z.t z.d r.t r.d < 0 := of_decide_eq_false hel
              rcases hkk with ⟨k1, k2, _⟩ | ⟨k1, _⟩ | ⟨k1, k2, _⟩
              · omega
              · exact absurd k1 hc
              · show decide (ckey r.t r.d z.t z.d < 0) = true
                rw [k2]; rfl
            intro b hb
            have hdk : os.drop k = z :: os.drop (k + 1) := (List.drop_eq_getElem_cons hkl).trans (by rw [hz])
            have hs := hF.srt
            rw [← List.take_append_drop k os, List.map_append, List.pairwise_append, hdk, List.map_cons, List.pairwise_cons] at hs
            rw [hdk, List.map_cons] at hb
            rcases List.mem_cons.1 hb with rfl | hb
            · exact hzr
            · exact rlt_swo.lt_le hzr (rlt_swo.asym _ _ (hs.2.1.1 b hb))
          have hO5 := hO.later (l2.trans l25)
          have hpre := RecS.pre elC_len hO5 (j := k) hk
          have lA := later_alloc w5 (.cells #[] 55)
          have hsA := World.size_alloc w5 (.cells #[] 55)
          have own0 : OwnE (w5.alloc (.cells #[] 55)) w5.heap.size (.slice (some ⟨w5.heap.size, 0, none⟩) 0 0) [] := OwnR.lit0 w5 _ (Nat.le_refl _)
          repeat' (first | (simp (disch := omega) only [push_cast, seval]) | refine iX ?_ ?_ <;> intros | refine aI (by omega) ?_ | refine dq ?_)
          refine vAppend_fresh Tryz.underlying33 ti55 rfl (by decide) (hpre.later lA) (by unfold maxLen; simp only [List.length_take]; omega) (by simp only [List.length_take]; omega) ?_
          intro v6 w6 hz hp
          have h6 : OwnE w6 w5.heap.size v6 (os.take k) ∧ Later w5 w6 := by
            rcases Nat.eq_zero_or_pos k with h0 | h0
            · obtain ⟨rfl, rfl⟩ := hz (by simp only [List.length_take]; omega)
              subst h0
              exact ⟨own0, lA⟩
            · obtain ⟨q1, q2⟩ := hp (by simp only [List.length_take]; omega)
              exact ⟨OwnR.base q1 (by omega), lA.trans q2⟩
          obtain ⟨ho6, l6⟩ := h6
          clear hz hp own0 hpre
          have f86 := cellsAt_later l6 4 f5
          have f86' : cellsAt w6 ⟨k4, 0, none⟩ 4 = some [.int .i64 r.t, r.dv, .int .i64 r.n, r.av] := f86
          have hx6 := hr5.later l6
          obtain ⟨o6, c6, hv6, _⟩ := RecS.slice (OwnR.s ho6)
          repeat' (first | (simp (disch := omega) only [push_cast, seval, f86']) | refine iX ?_ ?_ <;> intros | refine aI (by omega) ?_ | refine dq ?_)
          have l7 := later_alloc w6 (.cells #[.int .i64 r.t, r.dv, .int .i64 r.n, r.av] 55)
          have B7 := Blk.new w6 #[.int .i64 r.t, r.dv, .int .i64 r.n, r.av] 55
          refine vAppend_e (r := [r]) (ho6.later l7) (RecS.lit1 (elC_len r) B7) (by intro q hq; rw [List.mem_singleton.1 hq]; exact hx6.later l7) (by simp only [List.length_take, List.length_cons, List.length_nil]; omega) (Nat.le_trans l6.size l7.size) ?_
          intro v8 w8 ho8 hg8 _
          have l58 := (l6.trans l7).appended (ho6.later l7) (Nat.le_refl _) hg8
          have hO8 := hO5.later l58
          have hfrom := RecS.from elC_len hO8 (j := k) (by omega)
          rw [show os.length - (k) = ((os.length : Int) - ((k : Nat) : Int)).toNat by omega] at hfrom
          repeat' (first | (simp (disch := omega) only [push_cast, seval]) | refine iX ?_ ?_ <;> intros | refine aI (by omega) ?_ | refine dq ?_)
          refine vAppend_e (r := os.drop (k)) ho8 hfrom (by intro q hq; exact (hZ q (List.mem_of_mem_drop hq)).1.later ((l2.trans l25).trans l58)) (by simp only [List.length_append, List.length_take, List.length_drop, List.length_cons, List.length_nil]; omega) l58.size ?_
          intro v9 w9 ho9 hg9 _
          have l59 := l58.appended ho8 (Nat.le_refl _) hg9
          have hlast : F ((l.take (i + 1)).map El.abs) ((os.take k ++ [r] ++ os.drop (k)).map El.abs) := by
            rw [htk, List.map_append, List.map_append, List.map_singleton]
            have := F.add (A := (os.take k).map El.abs) (B := (os.drop k).map El.abs) (r := r.abs) (by rw [← List.map_append, List.take_append_drop]; exact hF) hAA hBB
            simpa using this
          have hZ9 : ∀ q ∈ os.take k ++ [r] ++ os.drop (k), EIs w9 q ∧ Gd D A q.abs := by
            intro q hq
            rcases List.mem_append.1 hq with hq | hq
            · rcases List.mem_append.1 hq with hq | hq
              · exact ⟨(hZ q (List.mem_of_mem_take hq)).1.later ((l2.trans l25).trans l59), (hZ q (List.mem_of_mem_take hq)).2⟩
              · rw [List.mem_singleton.1 hq]; exact ⟨hr5.later l59, hGr⟩
            · exact ⟨(hZ q (List.mem_of_mem_drop hq)).1.later ((l2.trans l25).trans l59), (hZ q (List.mem_of_mem_drop hq)).2⟩
          repeat' (first | (simp (disch := omega) only [push_cast, seval]) | refine iX ?_ ?_ <;> intros | refine aI (by omega) ?_ | refine dq ?_)
          exact ⟨rfl, (i + 1, v9), by simp (disch := omega) only [push_cast, seval], ⟨by dsimp only; omega, (l1.trans (l2.trans l25)).trans l59, _, OwnR.s ho9, by dsimp only; simp only [List.length_append, List.length_take, List.length_drop, List.length_cons, List.length_nil]; omega, hlast, hZ9⟩, by dsimp only; omega⟩

    · have hko : k = os.length := by omega
      have hx : b = true := by
        cases b with
        | true => rfl
        | false => obtain ⟨hp, _⟩ := hB rfl; omega
      subst hx
      clear hB
      repeat' (first | (simp (disch := omega) only [push_cast, seval, f2]) | refine iX ?_ ?_ <;> intros | refine aI (by omega) ?_ | refine dq ?_)
      have hr2 := hEr.later l2
      refine vStore_new rfl rfl (by simpa using elC_one hr2) ?_
      have l3 := later_alloc w2 (.cells (elC r).toArray 55)
      have B3 := Blk.new w2 (elC r).toArray 55
      generalize w2.alloc (.cells (elC r).toArray 55) = w3 at *
      generalize hk4 : w2.heap.size = k4 at *
      have f3 : cellsAt w3 ⟨k4, 0, none⟩ 4 = some (elC r) := Blk.cellsAt (l := elC r) B3
      have hr3 := hr2.later l3
      have g3 := cellsAt_later l3 4 f2

      repeat' (first | (simp (disch := omega) only [push_cast, seval]) | refine iX ?_ ?_ <;> intros | refine aI (by omega) ?_ | refine dq ?_)
      intro w5 l5
      have l25 := l3.trans l5
      have f5 := cellsAt_later l5 4 f3
      have hr5 := hr3.later l5
      have hBB : ∀ b ∈ (os.drop k).map El.abs, rlt r.abs b = true := by
        intro b hb
        rw [List.drop_of_length_le (by omega)] at hb
        simp at hb

      have hO5 := hO.later (l2.trans l25)
      have hpre := RecS.pre elC_len hO5 (j := k) hk
      have lA := later_alloc w5 (.cells #[] 55)
      have hsA := World.size_alloc w5 (.cells #[] 55)
      have own0 : OwnE (w5.alloc (.cells #[] 55)) w5.heap.size (.slice (some ⟨w5.heap.size, 0, none⟩) 0 0) [] := OwnR.lit0 w5 _ (Nat.le_refl _)
      repeat' (first | (simp (disch := omega) only [push_cast, seval]) | refine iX ?_ ?_ <;> intros | refine aI (by omega) ?_ | refine dq ?_)
      refine vAppend_fresh Tryz.underlying33 ti55 rfl (by decide) (hpre.later lA) (by unfold maxLen; simp only [List.length_take]; omega) (by simp only [List.length_take]; omega) ?_
      intro v6 w6 hz hp
      have h6 : OwnE w6 w5.heap.size v6 (os.take k) ∧ Later w5 w6 := by
        rcases Nat.eq_zero_or_pos k with h0 | h0
        · obtain ⟨rfl, rfl⟩ := hz (by simp only [List.length_take]; omega)
          subst h0
          exact ⟨own0, lA⟩
        · obtain ⟨q1, q2⟩ := hp (by simp only [List.length_take]; omega)
          exact ⟨OwnR.base q1 (by omega), lA.trans q2⟩
      obtain ⟨ho6, l6⟩ := h6
      clear hz hp own0 hpre
      have f86 := cellsAt_later l6 4 f5
      have f86' : cellsAt w6 ⟨k4, 0, none⟩ 4 = some [.int .i64 r.t, r.dv, .int .i64 r.n, r.av] := f86
      have hx6 := hr5.later l6
      obtain ⟨o6, c6, hv6, _⟩ := RecS.slice (OwnR.s ho6)
      repeat' (first | (simp (disch := omega) only [push_cast, seval, f86']) | refine iX ?_ ?_ <;> intros | refine aI (by omega) ?_ | refine dq ?_)
      have l7 := later_alloc w6 (.cells #[.int .i64 r.t, r.dv, .int .i64 r.n, r.av] 55)
      have B7 := Blk.new w6 #[.int .i64 r.t, r.dv, .int .i64 r.n, r.av] 55
      refine vAppend_e (r := [r]) (ho6.later l7) (RecS.lit1 (elC_len r) B7) (by intro q hq; rw [List.mem_singleton.1 hq]; exact hx6.later l7) (by simp only [List.length_take, List.length_cons, List.length_nil]; omega) (Nat.le_trans l6.size l7.size) ?_
      intro v8 w8 ho8 hg8 _
      have l58 := (l6.trans l7).appended (ho6.later l7) (Nat.le_refl _) hg8
      have hO8 := hO5.later l58
      have hfrom := RecS.from elC_len hO8 (j := k) (by omega)
      rw [show os.length - (k) = ((os.length : Int) - ((k : Nat) : Int)).toNat by omega] at hfrom
      repeat' (first | (simp (disch := omega) only [push_cast, seval]) | refine iX ?_ ?_ <;> intros | refine aI (by omega) ?_ | refine dq ?_)
      refine vAppend_e (r := os.drop (k)) ho8 hfrom (by intro q hq; exact (hZ q (List.mem_of_mem_drop hq)).1.later ((l2.trans l25).trans l58)) (by simp only [List.length_append, List.length_take, List.length_drop, List.length_cons, List.length_nil]; omega) l58.size ?_
      intro v9 w9 ho9 hg9 _
      have l59 := l58.appended ho8 (Nat.le_refl _) hg9
      have hlast : F ((l.take (i + 1)).map El.abs) ((os.take k ++ [r] ++ os.drop (k)).map El.abs) := by
        rw [htk, List.map_append, List.map_append, List.map_singleton]
        have := F.add (A := (os.take k).map El.abs) (B := (os.drop k).map El.abs) (r := r.abs) (by rw [← List.map_append, List.take_append_drop]; exact hF) hAA hBB
        simpa using this
      have hZ9 : ∀ q ∈ os.take k ++ [r] ++ os.drop (k), EIs w9 q ∧ Gd D A q.abs := by
        intro q hq
        rcases List.mem_append.1 hq with hq | hq
        · rcases List.mem_append.1 hq with hq | hq
          · exact ⟨(hZ q (List.mem_of_mem_take hq)).1.later ((l2.trans l25).trans l59), (hZ q (List.mem_of_mem_take hq)).2⟩
          · rw [List.mem_singleton.1 hq]; exact ⟨hr5.later l59, hGr⟩
        · exact ⟨(hZ q (List.mem_of_mem_drop hq)).1.later ((l2.trans l25).trans l59), (hZ q (List.mem_of_mem_drop hq)).2⟩
      repeat' (first | (simp (disch := omega) only [push_cast, seval]) | refine iX ?_ ?_ <;> intros | refine aI (by omega) ?_ | refine dq ?_)
      exact ⟨rfl, (i + 1, v9), by simp (disch := omega) only [push_cast, seval], ⟨by dsimp only; omega, (l1.trans (l2.trans l25)).trans l59, _, OwnR.s ho9, by dsimp only; simp only [List.length_append, List.length_take, List.length_drop, List.length_cons, List.length_nil]; omega, hlast, hZ9⟩, by dsimp only; omega⟩
  · have e : i = l.length := by omega
    subst e
    rw [List.take_length] at hF
    have hf : FoldD D A w1 ov 0 (l.map El.abs) := .inr ⟨rfl, os, hO, hF, hZ⟩
    repeat' (first | (simp (disch := omega) only [push_cast, seval]) | refine iX ?_ ?_ <;> intros | refine aI (by omega) ?_ | refine dq ?_)
    exact ⟨_, _, rfl, hf, l1⟩
end Go.Proofs.YtnofalhkapmcnaaGreat
end
section
namespace Go.Fold
open Go.Key Go.Stab Go.Proofs.YtnofalhkapmcnaaGreat
theorem len_keys : ∀ (out l : List R), out.Pairwise (fun a b => rlt a b = true) → (∀ z ∈ out, ∃ y ∈ l, Same z y) → out.length ≤ l.length
  | [], _, _, _ => Nat.zero_le _
  | z :: T, l, hs, hm => by
    obtain ⟨y, hy, hzy⟩ := hm z (by simp)
    obtain ⟨A, B, rfl⟩ := List.append_of_mem hy
    rw [List.pairwise_cons] at hs
    have := len_keys T (A ++ B) hs.2 fun t ht => by
      obtain ⟨u, hu, htu⟩ := hm t (by simp [ht])
      rcases List.mem_append.1 hu with hu | hu
      · exact ⟨u, List.mem_append_left _ hu, htu⟩
      · rcases List.mem_cons.1 hu with rfl | hu
        · have h1 := hs.1 t ht
          have hst : Same z t := ⟨hzy.1.trans htu.1.symm, hzy.2.trans htu.2.symm⟩
          rw [rlt_l hst, rlt_swo.irr] at h1
          cases h1
        · exact ⟨u, List.mem_append_right _ hu, htu⟩
    simp only [List.length_cons, List.length_append] at this ⊢
    omega
theorem F.len {l out : List R} (h : F l out) : out.length ≤ l.length := len_keys out l h.srt fun z hz => h.mem hz
end Go.Fold
end
section
set_option linter.unusedSimpArgs false
namespace Go.Proofs.YtnofalhkapmcnaaGreat
open Go.Vc Go.Key Go.Cub Go.Fold Go.Stab
set_option maxRecDepth 100000
structure TyQ (d m : List ByteArray) (q : QD) : Prop where
  bl : ∀ n ∈ q.bl, n ∈ d
  bln : q.bl.length ≤ 6
  tl : ∀ t ∈ q.tl, TmOk m t
  tln : q.tl.length ≤ 8
  hl : ∀ h ∈ q.hl, TmOk m h.t
  od : q.od.natAbs ≤ q.tl.length
  lm : 0 ≤ q.lm
def grpG (m : List ByteArray) (q : QD) (r : R) : GR := (r.1, r.2.1, q.tl.map fun t => tmV m t r)
def grsL (m : List ByteArray) (q : QD) (l : List R) : List GR := (l.filter (stQ m q.hl)).map (grpG m q)
theorem grsL_app (m : List ByteArray) (q : QD) (a b : List R) : grsL m q (a ++ b) = grsL m q a ++ grsL m q b := by unfold grsL; rw [List.filter_append, List.map_append]
theorem grsL_len (m : List ByteArray) (q : QD) (a : List R) : (grsL m q a).length ≤ a.length := by unfold grsL; rw [List.length_map]; exact List.length_filter_le _ _
theorem grsL_skip (m : List ByteArray) (q : QD) {r : R} (h : stQ m q.hl r = false) : grsL m q [r] = [] := by
  unfold grsL; rw [List.filter_cons_of_neg (by rw [h]; simp)]; rfl
theorem grsL_keep (m : List ByteArray) (q : QD) {r : R} (h : stQ m q.hl r = true) : grsL m q [r] = [grpG m q r] := by
  unfold grsL; rw [List.filter_cons_of_pos h]; rfl
def FinL (m : List ByteArray) (q : QD) (l : List R) (gs : List GR) : Prop := ∃ rows, F l rows ∧ ∃ s, Srt (rglt q.od) s ∧ Stb (rglt q.od) (grsL m q rows) s ∧ gs = if 0 < q.lm then s.take q.lm.toNat else s
def FinR (m : List ByteArray) (q : QD) (w : World) (v : Value) (e : Int) (l : List R) : Prop := (e = 121 ∧ v = .slice none 0 0 ∧ Bad l) ∨ (e = 0 ∧ ∃ gs : List Gx, RecS gxC 3 w v gs ∧ (∀ z ∈ gs, GxIs w z) ∧ FinL m q l (gs.map Gx.abs))
structure PT (w0 w : World) (b B : Nat) (t : Int) (dv : Value) (ks : List Int) : Prop where
  later : Later w0 w
  cur : ∃ kv, Blk w b #[.int .i64 t, dv, kv] 61 ∧ OwnI w B 3 kv ks
theorem PT.snoc {w0 w8 w9 : World} {b B : Nat} {t : Int} {dv kv v' : Value} {ks : List Int} {n : Int} (l : Later w0 w8) (hb : w0.heap.size ≤ b) (hB : w0.heap.size ≤ B) (h : Blk w8 b #[.int .i64 t, dv, kv] 61) (ho : OwnI w8 B 3 kv ks) (ho' : OwnI w9 B 3 v' (ks ++ [n])) (hg : w8.grownBy w9 kv.ownBlock) :
    w9.frozen? ⟨b, 2, none⟩ = false ∧ (∃ y, w9.cell? ⟨b, 2, none⟩ = some y) ∧ PT w0 (w9.setCell ⟨b, 2, none⟩ v') b B t dv (ks ++ [n]) := by
  have q4 : Blk w9 b _ 61 := grown_obj ho hg h (fun cs h => by simp at h)
  have q5 := l.appended ho hB hg
  have gc := chg_setCell (i := 2) w9 (ks := [b]) (k := b) (by simp) v'
  exact ⟨q4.frozen 2, ⟨_, q4.cell 2⟩, gc.later q5 (by intro j hj; rw [List.mem_singleton.1 hj]; omega), v', q4.set 2 v', own_chg_ty ho' q4 (by decide) gc⟩
abbrev OwnX (w : World) (B : Nat) (v : Value) (l : List Gx) : Prop := OwnR gxC 3 w B 61 v l
theorem GxO.grown {w w' : World} {B B' : Nat} {v : Value} {es : List Gx} {g : Gx} (h : GxO w B' g) (hv : OwnX w B v es) (gr : w.grownBy w' v.ownBlock) : GxO w' B' g := by
  have gc := Chg.of_grown gr
  obtain ⟨o, c, rfl, _⟩ := RecS.slice (OwnR.s hv)
  cases o with
  | none => exact h.later ⟨gc.os, gc.tape, gc.output, gc.size, fun k hk => gc.block k hk (by simp [Value.ownBlock])⟩
  | some a =>
    obtain ⟨k, rfl, _, _, ⟨cs, hb⟩, _⟩ := own_writes hv
    exact h.chg hb gc
theorem vAppend_g {w : World} {K : Value → World → Prop} {ty : TypeId} {B : Nat} {v x : Value} {l r : List Gx} (hown : OwnX w B v l) (hx : RecS gxC 3 w x r) (h1 : ∀ e ∈ r, GxIs w e) (h63 : l.length + r.length ≤ 100000000) (hbase : B ≤ w.heap.size)
    (hK : ∀ v' w', OwnX w' B v' (l ++ r) → w.grownBy w' v.ownBlock → (v'.ownBlock = v.ownBlock ∨ v'.ownBlock = some w.heap.size) → K v' w') : vAppend Tryz.prog #[36, 36] ty #[v, x] K w := by
  refine vAppend_at Tryz.underlying36 ti61 rfl (by decide) hown hx ?_ (by unfold maxLen; omega) (by omega) hbase ?_
  · intro u hu
    obtain ⟨ys, hy, hu⟩ := List.mem_flatten.1 hu
    obtain ⟨p, hp, rfl⟩ := List.mem_map.1 hy
    exact gxC_one (h1 p hp) u hu
  · intro v' w' ho hg hs
    refine hK v' w' ?_ hg hs
    unfold OwnX OwnR
    simpa using ho
theorem gstb_abs {kb : Nat} {od : Int} {l l' : List (Ge kb od)} (h : Stb glt l l') : Stb (rglt od) (l.map fun e => e.g.abs) (l'.map fun e => e.g.abs) := by
  refine ⟨by simp [h.1], fun q => ?_⟩
  have e : ∀ m : List (Ge kb od), (m.map fun e => e.g.abs).filter (eqv (rglt od) q) = (m.filter (eqv glt ⟨⟨q.1, q.2.1, q.2.2, .slice none 0 0, .slice none 0 0⟩⟩)).map fun e => e.g.abs := by
    intro m
    rw [List.filter_map]
    congr 1
    refine List.filter_congr fun x _ => ?_
    show eqv (rglt od) q x.g.abs = eqv glt _ x
    unfold eqv
    rw [glt_is, glt_is]
    rfl
  rw [e, e, h.2]
theorem gsrt_abs {kb : Nat} {od : Int} {l : List (Ge kb od)} (h : Srt glt l) : Srt (rglt od) (l.map fun e => e.g.abs) := by
  unfold Srt at h ⊢
  rw [List.pairwise_map]
  refine h.imp fun hab => ?_
  rw [← glt_is]; exact hab
theorem srt_zero (l : List GR) : Srt (rglt 0) l := by
  unfold Srt
  induction l with
  | nil => exact List.Pairwise.nil
  | cons a l ih => exact List.Pairwise.cons (fun b _ => rfl) ih
set_option maxHeartbeats 4000000 in
theorem gfinish_c (D : Nat) (dv mv v : Value) (d m : List ByteArray) (q : QD) (l : List El) (w : World) (h : ScIs w dv mv d m) (hq : q.Ok w) (hT : TyQ d m q) (hl : RecS elC 4 w v l) (hes : ∀ e ∈ l, EIs w e ∧ Gd D m.length e.abs) (h63 : l.length ≤ 100000) :
    FnC Tryz.prog 24 #[scV dv mv, .agg (qdC q).toArray, v] w fun r w' => ∃ vv e, r = .tuple #[vv, .int .i64 e] ∧ FinR m q w' vv e (l.map El.abs) ∧ Later w w' := by
  have esc : scV dv mv = .agg #[dv, mv] := rfl
  rw [esc]
  obtain ⟨lo, lc, rfl, gl1, gl2⟩ := hl.slice
  obtain ⟨to, tc, htv, ht1, ht2⟩ := RecS.slice hq.tv
  refine enter24 _ _ _ ?_
  unfold B24
  have eca : (Value.agg (qdC q).toArray).cells = (qdC q).toArray := rfl
  have ecb : (Value.agg #[dv, mv]).cells = #[dv, mv] := rfl
  obtain ⟨l1, s1, F⟩ := box2 w dv mv 24
  have B2 := Blk.new (w.alloc (.cells #[dv, mv] 24)) (qdC q).toArray 32
  have l2 := later_alloc (w.alloc (.cells #[dv, mv] 24)) (.cells (qdC q).toArray 32)
  rw [s1] at B2
  repeat' (first | (simp (disch := omega) only [push_cast, seval, eca, ecb, s1]) | refine iX ?_ ?_ <;> intros | refine aI (by omega) ?_ | fail)
  have l01 := l1.trans l2
  have FS : ∀ w', Later ((w.alloc (.cells #[dv, mv] 24)).alloc (.cells (qdC q).toArray 32)) w' → cellsAt w' ⟨w.heap.size, 0, none⟩ 2 = some [dv, mv] := fun w' hl => (F w' (l2.trans hl)).2.2
  clear F l1 l2 s1
  generalize (w.alloc (.cells #[dv, mv] 24)).alloc (.cells (qdC q).toArray 32) = w1 at *
  generalize hkq : w.heap.size = kf at *
  have h1 := h.later l01
  have q1 := hq.later l01
  have QB := fun w' (hl : Later w1 w') => qdLater B2 hl
  repeat' (first | (simp (disch := omega) only [push_cast, seval]) | refine iX ?_ ?_ <;> intros | refine aI (by omega) ?_ | refine dq ?_)
  refine (rfold_c D m.length _ l w1 (hl.later l01) (fun e he => ⟨(hes e he).1.later l01, (hes e he).2⟩) h63).mono ?_
  rintro _ w2 ⟨vv, er, rfl, hf, l2⟩
  have l02 := l01.trans l2
  rcases hf with ⟨rfl, rfl, hbad⟩ | ⟨rfl, es, ho, hF, hZ⟩
  · repeat' (first | (simp (disch := omega) only [push_cast, seval]) | refine iX ?_ ?_ <;> intros | refine aI (by omega) ?_ | refine dq ?_)
    exact ⟨_, _, rfl, .inl ⟨rfl, rfl, hbad⟩, l02⟩
  have hesl : es.length ≤ 100000 := by
    have h2 := F.len hF
    rw [List.length_map, List.length_map] at h2
    omega
  obtain ⟨eo, ec, rfl, ge1, ge2⟩ := RecS.slice (OwnR.s ho)
  repeat' (first | (simp (disch := omega) only [push_cast, seval]) | refine iX ?_ ?_ <;> intros | refine aI (by omega) ?_ | refine dq ?_)
  refine vc_loop W24_0 (fun p : Nat × Value => [(9, p.2), (26, .int .i64 (p.1 : Int))])
    (fun p w' => p.1 ≤ es.length ∧ Later w2 w' ∧ ∃ os, OwnX w' w2.heap.size p.2 os ∧ os.map Gx.abs = grsL m q ((es.take p.1).map El.abs) ∧ ∀ z ∈ os, GxO w' w1.heap.size z ∧ z.k.length = q.tl.length) (fun p => es.length - p.1) (0, .slice none 0 0) (by decide) ?_ ?_ ?_
  · simp (disch := omega) only [push_cast, seval]
  · exact ⟨by omega, Later.refl _, [], OwnR.nil _ _ _, by simp [grsL], by simp⟩
  rintro ⟨i, ov⟩ uu w3 ⟨hi, l3, os, hO, hos, hG⟩
  dsimp only at hi hO hos
  have hosl : os.length ≤ es.length := by
    have h1 := congrArg List.length hos
    have h2 := grsL_len m q ((es.take i).map El.abs)
    rw [List.length_map] at h1
    rw [List.length_map, List.length_take] at h2
    omega
  have l13 := l2.trans l3
  have l03 := l01.trans l13
  by_cases hlt : i < es.length
  · obtain ⟨ad, rfl, f1⟩ := RecS.at elC_len (RecS.later (OwnR.s ho) l3) hlt
    have hE := (hZ es[i] (List.getElem_mem _)).1.later l3
    have hgd := (hZ es[i] (List.getElem_mem _)).2
    have htk : grsL m q ((es.take (i + 1)).map El.abs) = grsL m q ((es.take i).map El.abs) ++ grsL m q [es[i].abs] := by rw [take_snoc es i hlt, List.map_append, grsL_app]; rfl
    generalize es[i] = x at *
    have hxa : x.a.length = m.length := hgd.rr.2.2
    obtain ⟨oo, oc, rfl, _⟩ := RecS.slice (OwnR.s hO)
    obtain ⟨ox, cx, hxdv, hxs, gx1, gx2, gx3⟩ := StS.opn hE.is.1
    obtain ⟨oa, ca, hxav, _⟩ := RecS.slice hE.is.2
    unfold elC at f1
    repeat' (first | (simp (disch := omega) only [push_cast, seval, f1]) | refine iX ?_ ?_ <;> intros | refine aI (by omega) ?_ | refine dq ?_)
    refine vStore_new rfl rfl (by intro u hu; exact elC_one hE.is u (by simpa [elC] using hu)) ?_
    have l4 := later_alloc w3 (.cells #[.int .i64 x.t, x.dv, .int .i64 x.n, x.av] 55)
    obtain ⟨b0, b1, _, _, b4⟩ := box4 w3 (.int .i64 x.t) x.dv (.int .i64 x.n) x.av 55
    generalize w3.alloc (.cells #[.int .i64 x.t, x.dv, .int .i64 x.n, x.av] 55) = w4 at *
    generalize w3.heap.size = k4 at *
    have b4 : cellsAt w4 ⟨k4, 0, none⟩ 4 = some (elC x) := b4
    have b4' := b4
    have l14 := l13.trans l4
    have fq : cellsAt w4 ⟨kf + 1, 0, none⟩ 12 = some (qdC q) := Blk.cellsAt (l := qdC q) (QB w4 l14)
    have fs := FS w4 l14
    repeat' (first | (simp (disch := omega) only [push_cast, seval, fq, fs, b4]) | refine iX ?_ ?_ <;> intros | refine aI (by omega) ?_ | refine dq ?_)
    refine (gstays_c dv mv d m q x w4 (h1.later l14) (q1.later l14) hT.hl (hE.is.later l4) hxa).mono ?_
    rintro _ w5 ⟨rfl, l5⟩
    have l45 := l4.trans l5
    cases hst : stQ m q.hl x.abs with
    | false =>
      have hs : i + 1 ≤ es.length ∧ Later w2 w5 ∧ ∃ os', OwnX w5 w2.heap.size (.slice oo os.length oc) os' ∧ os'.map Gx.abs = grsL m q ((es.take (i + 1)).map El.abs) ∧ ∀ z ∈ os', GxO w5 w1.heap.size z ∧ z.k.length = q.tl.length :=
        ⟨by omega, l3.trans l45, os, hO.later l45, by rw [htk, grsL_skip m q hst, List.append_nil]; exact hos, fun z hz => ⟨(hG z hz).1.later l45, (hG z hz).2⟩⟩
      repeat' (first | (simp (disch := omega) only [push_cast, seval]) | refine iX ?_ ?_ <;> intros | refine aI (by omega) ?_ | refine dq ?_)
      exact ⟨rfl, (i + 1, _), by simp (disch := omega) only [push_cast, seval], hs, by dsimp only; omega⟩
    | true =>
    have b05 := l5.cell b0
    have b15 := l5.cell b1
    have b45 := cellsAt_later l5 _ b4
    rw [hxdv] at b15
    repeat' (first | (simp (disch := omega) only [push_cast, seval, b05, b15, addr_add_eq, Nat.zero_add]) | refine iX ?_ ?_ <;> intros | refine aI (by omega) ?_ | refine dq ?_)
    have hone : ∀ u ∈ (#[.int .i64 x.t, .slice ox x.d.length cx, .slice none 0 0] : Array Value).toList, u.oneCell' = true := by
      intro u hu
      simp at hu
      rcases hu with rfl | rfl | rfl <;> rfl
    refine vStore_new rfl rfl hone ?_
    have l6 := later_alloc w5 (.cells #[.int .i64 x.t, .slice ox x.d.length cx, .slice none 0 0] 61)
    have B6 := Blk.new w5 #[.int .i64 x.t, .slice ox x.d.length cx, .slice none 0 0] 61
    generalize w5.alloc (.cells #[.int .i64 x.t, .slice ox x.d.length cx, .slice none 0 0] 61) = w6 at *
    have P6 : PT w5 w6 w5.heap.size w5.heap.size x.t (.slice ox x.d.length cx) [] := ⟨l6, _, B6, own_nil _ _ _ _⟩
    have b46 := cellsAt_later l6 _ b45
    have l35 := l45
    have l16 := l14.trans (l5.trans l6)
    obtain ⟨a0, _⟩ := qdAt (QB w6 l16)
    rw [htv] at a0
    generalize hb : w5.heap.size = b at *
    clear B6 f1 b0 b1 b4 b05 b15 b45 fq fs
    repeat' (first | (simp (disch := omega) only [push_cast, seval, a0, addr_add_eq, Nat.zero_add]) | refine iX ?_ ?_ <;> intros | refine aI (by omega) ?_ | refine dq ?_)
    refine vc_loop W24_1 (fun k : Nat => [(43, .int .i64 (k : Int))])
      (fun k w' => k ≤ q.tl.length ∧ PT w5 w' b b x.t (.slice ox x.d.length cx) ((q.tl.take k).map fun t => tmV m t x.abs)) (fun k => q.tl.length - k) 0 (by decide) ?_ ?_ ?_
    · simp (disch := omega) only [push_cast, seval]
    · exact ⟨by omega, by simpa using P6⟩
    clear P6 a0 b46
    rintro k uu3 w7 ⟨hk7, P7⟩
    have l57 := P7.later
    have l37 := l35.trans l57
    have l17 := l13.trans l37
    have b47 := cellsAt_later (l5.trans l57) 4 b4'
    by_cases hkl : k < q.tl.length
    · have htm := hT.tl q.tl[k] (List.getElem_mem _)
      have htq := RecS.later hq.tv (l01.trans l17)
      rw [htv] at htq
      obtain ⟨at_, rfl, ft⟩ := RecS.at tdC_len htq hkl
      have hks : (q.tl.take (k + 1)).map (fun t => tmV m t x.abs) = (q.tl.take k).map (fun t => tmV m t x.abs) ++ [tmV m q.tl[k] x.abs] := by rw [take_snoc q.tl k hkl, List.map_append]; rfl
      have htO := hq.tl q.tl[k] (List.getElem_mem _)
      have hksl : ((q.tl.take k).map fun t => tmV m t x.abs).length = k := by simp; omega
      generalize q.tl[k] = t at *
      unfold tdC at ft
      repeat' (first | (simp (disch := omega) only [push_cast, seval, ft]) | refine iX ?_ ?_ <;> intros | refine aI (by omega) ?_ | refine dq ?_)
      refine vStore_new rfl rfl (by intro u hu; simp at hu; rcases hu with rfl | rfl <;> rfl) ?_
      have l8 := later_alloc w7 (.cells #[.int .i64 t.f, .string t.m] 58)
      have B8 := Blk.new w7 #[.int .i64 t.f, .string t.m] 58
      generalize w7.alloc (.cells #[.int .i64 t.f, .string t.m] 58) = w8 at *
      generalize w7.heap.size = k8 at *
      have f8 : cellsAt w8 ⟨k8, 0, none⟩ 2 = some (tdC t) := Blk.cellsAt (l := tdC t) B8
      obtain ⟨_, kvc, Bc, hOc⟩ := P7
      have Bc := Bc.chg (Chg.of_later (ks := []) l8) (by simp)
      have hOc := hOc.later l8
      obtain ⟨oc2, cc2, hkvc⟩ := hOc.slice
      subst hkvc
      have f2 : w8.cell? ⟨b, 2, none⟩ = some (.slice oc2 ((q.tl.take k).map fun t => tmV m t x.abs).length cc2) := Bc.cell 2
      have b48 := cellsAt_later l8 _ b47
      have l58 := l57.trans l8
      have l38 := l35.trans l58
      have l18 := l13.trans l38
      have fs8 := FS w8 l18
      generalize ((q.tl.take k).map fun t => tmV m t x.abs) = ks at *
      repeat' (first | (simp (disch := omega) only [push_cast, seval, f2, f8, fs8, b48, addr_add_eq, Nat.zero_add]) | refine iX ?_ ?_ <;> intros | refine aI (by omega) ?_ | fail)
      refine drawn_k 7 ?_
      repeat' (first | (simp (disch := omega) only [push_cast, seval, f2, f8, fs8, b48, addr_add_eq, Nat.zero_add]) | refine iX ?_ ?_ <;> intros | refine aI (by omega) ?_ | fail)
      refine NFn.fix hb57 (v := .int .i64 (tmV m t x.abs)) (fun w' hl => gterm_c dv mv d m t x w' (h1.later (l18.trans hl)) htm (hE.is.later (l38.trans hl)) hxa) ?_
      repeat' (first | (simp (disch := omega) only [push_cast, seval, f2, f8, fs8, b48, addr_add_eq, Nat.zero_add]) | refine iX ?_ ?_ <;> intros | refine aI (by omega) ?_ | fail)
      refine nB_of _ (RowV w8 3 #[.int .i64 (tmV m t x.abs)] 1) (stb_row _ _ _ _) (fun w' hl => ?_) ?_
      · repeat' (first | (simp (disch := omega) only [push_cast, seval]) | refine iX ?_ ?_ <;> intros | refine aI (by omega) ?_ | fail)
        exact RowV.new hl _ _ _
      repeat' (first | (simp (disch := omega) only [push_cast, seval]) | refine iX ?_ ?_ <;> intros | refine aI (by omega) ?_ | fail)
      rintro w9 l9 _ ⟨kb, rfl, hkb, Bk⟩
      have hsl : SlN w9 1 (.slice (some ⟨kb, 0, none⟩) 1 1) 1 [.int .i64 (tmV m t x.abs)] := Sl.of_blk (xs := [.int .i64 (tmV m t x.abs)]) Bk rfl (by unfold maxLen; omega)
      have Bc9 := Bc.chg (Chg.of_later (ks := []) l9) (by simp)
      have hO9 := hOc.later l9
      have l59 := l58.trans l9
      refine vAppend_i Tryz.underlying59 ti3 rfl hO9 hsl (by have := hT.tln; omega) (by omega) (by rw [← hb]; exact l59.size) ?_
      intro v' wa hoa hga _ _
      obtain ⟨q1', q2', q3'⟩ := PT.snoc l59 (by omega) (by omega) Bc9 hO9 hoa hga
      obtain ⟨o8, c8, hv8⟩ := hoa.slice
      subst hv8
      repeat' (first | (simp (disch := omega) only [push_cast, seval, q1', q2', addr_add_eq, Nat.zero_add]) | refine iX ?_ ?_ <;> intros | refine aI (by omega) ?_ | refine dq ?_)
      refine ⟨rfl, k + 1, by simp (disch := omega) only [push_cast, seval], ⟨by omega, ?_⟩, by dsimp only; omega⟩
      rw [hks]
      exact q3'
    · have e0 : k = q.tl.length := by omega
      subst e0
      rw [List.take_length] at P7
      obtain ⟨_, kv, Bc, hOc⟩ := P7
      obtain ⟨z, hzd⟩ : ∃ z : Gx, z = ⟨x.t, x.d, q.tl.map fun t => tmV m t x.abs, .slice ox x.d.length cx, kv⟩ := ⟨_, rfl⟩
      have hzO : GxO w7 w1.heap.size z := by
        rw [hzd]
        refine ⟨?_, own_base hOc (by rw [← hb]; exact (l14.trans l5).size)⟩
        have := own_later hE.1 l37
        rwa [hxdv] at this
      have hzabs : z.abs = grpG m q x.abs := by rw [hzd]; rfl
      have hzk : z.k.length = q.tl.length := by rw [hzd]; simp
      have Bz : Blk w7 b (gxC z).toArray 61 := by rw [hzd]; exact Bc
      clear hzd Bc hOc
      have fz : cellsAt w7 ⟨b, 0, none⟩ 3 = some [.int .i64 z.t, z.dv, z.kv] := Blk.cellsAt (l := gxC z) Bz
      repeat' (first | (simp (disch := omega) only [push_cast, seval, fz]) | refine iX ?_ ?_ <;> intros | refine aI (by omega) ?_ | refine dq ?_)
      have la := later_alloc w7 (.cells #[.int .i64 z.t, z.dv, z.kv] 61)
      have Bl := Blk.new w7 #[.int .i64 z.t, z.dv, z.kv] 61
      have l3a := l37.trans la
      have hOa := hO.later l3a
      refine vAppend_g (r := [z]) hOa (RecS.lit1 (gxC_len z) Bl) (by intro q hq; rw [List.mem_singleton.1 hq]; exact hzO.is.later la) (by simp only [List.length_cons, List.length_nil]; omega) (l3.trans l3a).size ?_
      intro v' wb hob hgb _
      have lb := (l3.trans l3a).appended hOa (Nat.le_refl _) hgb
      repeat' (first | (simp (disch := omega) only [push_cast, seval]) | refine iX ?_ ?_ <;> intros | refine aI (by omega) ?_ | refine dq ?_)
      refine ⟨rfl, (i + 1, v'), by simp (disch := omega) only [push_cast, seval], ⟨by dsimp only; omega, lb, os ++ [z], hob, by dsimp only; rw [htk, grsL_keep m q hst, List.map_append, hos, List.map_singleton, hzabs], fun q hq => ?_⟩, by dsimp only; omega⟩
      rcases List.mem_append.1 hq with hq | hq
      · exact ⟨((hG q hq).1.later l3a).grown hOa hgb, (hG q hq).2⟩
      · rw [List.mem_singleton.1 hq]
        exact ⟨(hzO.later la).grown hOa hgb, hzk⟩
  · have e0 : i = es.length := by omega
    subst e0
    rw [List.take_length] at hos
    obtain ⟨oo, oc, rfl, go1, go2⟩ := RecS.slice (OwnR.s hO)
    obtain ⟨_, _, _, _, _, _, _, _, _, _, a7, _⟩ := qdAt (QB w3 l13)
    have hfl : ∀ (w5 : World) (vv : Value) (gs : List Gx), RecS gxC 3 w5 vv gs → (∀ z ∈ gs, GxIs w5 z) → (∃ s, Srt (rglt q.od) s ∧ Stb (rglt q.od) (grsL m q (es.map El.abs)) s ∧ gs.map Gx.abs = if 0 < q.lm then s.take q.lm.toNat else s) → Later w w5 → ∃ vv' e, Value.tuple #[vv, .int .i64 0] = .tuple #[vv', .int .i64 e] ∧ FinR m q w5 vv' e (l.map El.abs) ∧ Later w w5 :=
      fun w5 vv gs h1 h2 h3 h4 => ⟨vv, 0, rfl, .inr ⟨rfl, gs, h1, h2, _, hF, h3⟩, h4⟩
    have hlm := hT.lm
    by_cases hod : q.od = 0
    · have e1 : decide (q.od = 0) = true := decide_eq_true hod
      repeat' (first | (simp (disch := omega) only [push_cast, seval, a7, e1, addr_add_eq, Nat.zero_add]) | refine iX ?_ ?_ <;> intros | refine aI (by omega) ?_ | fail)
      have l5 := later_alloc w3 (.cells #[.int .i64 q.od] 3)
      generalize w3.alloc (.cells #[.int .i64 q.od] 3) = w5 at *
      have l15 := l13.trans l5
      obtain ⟨gs, hgs⟩ : ∃ gs, gs = os := ⟨_, rfl⟩
      have hR : RecS gxC 3 w5 (.slice oo os.length oc) gs := by rw [hgs]; exact (OwnR.s hO).later l5
      have hI : ∀ z ∈ gs, GxIs w5 z := fun z hz => ((hG z (hgs ▸ hz)).1.later l5).is
      have hs1 : Srt (rglt q.od) (gs.map Gx.abs) := by rw [hod]; exact srt_zero _
      have hs2 : Stb (rglt q.od) (grsL m q (es.map El.abs)) (gs.map Gx.abs) := by rw [hgs, hos]; exact Stb.refl _
      obtain ⟨_, _, _, _, _, _, _, _, _, _, _, a8⟩ := qdAt (QB w5 l15)
      have l05 := l01.trans l15
      have hgl : gs.length = os.length := (SlN.len hR).1.symm
      by_cases hl0 : 0 < q.lm
      · have e2 : decide (0 < q.lm) = true := decide_eq_true hl0
        by_cases hmn : (os.length : Int) ≤ q.lm
        · repeat' (first | (simp (disch := omega) only [push_cast, seval, a8, e2, addr_add_eq, Nat.zero_add]) | refine iX ?_ ?_ <;> intros | refine aI (by omega) ?_ | refine dq ?_)
          exact hfl w5 _ gs hR hI ⟨_, hs1, hs2, by rw [if_pos hl0, List.take_of_length_le (by rw [List.length_map, hgl]; omega)]⟩ l05
        · have hR' := RecS.pre gxC_len hR (j := q.lm.toNat) (by omega)
          repeat' (first | (simp (disch := omega) only [push_cast, seval, a8, e2, addr_add_eq, Nat.zero_add]) | refine iX ?_ ?_ <;> intros | refine aI (by omega) ?_ | refine dq ?_)
          exact hfl w5 _ (gs.take q.lm.toNat) hR' (fun z hz => hI z (List.mem_of_mem_take hz)) ⟨_, hs1, hs2, by rw [if_pos hl0, List.map_take]⟩ l05
      · have e2 : decide (0 < q.lm) = false := decide_eq_false hl0
        repeat' (first | (simp (disch := omega) only [push_cast, seval, a8, e2, addr_add_eq, Nat.zero_add]) | refine iX ?_ ?_ <;> intros | refine aI (by omega) ?_ | refine dq ?_)
        exact hfl w5 _ gs hR hI ⟨_, hs1, hs2, (if_neg hl0).symm⟩ l05
    · have e1 : decide (q.od = 0) = false := decide_eq_false hod
      repeat' (first | (simp (disch := omega) only [push_cast, seval, a7, e1, addr_add_eq, Nat.zero_add]) | refine iX ?_ ?_ <;> intros | refine aI (by omega) ?_ | fail)
      have l4 := later_alloc w3 (.cells #[.int .i64 q.od] 3)
      have B4 := Blk.new w3 #[.int .i64 q.od] 3
      generalize w3.alloc (.cells #[.int .i64 q.od] 3) = w4 at *
      generalize w3.heap.size = kb at *
      have hoG : OwnG w4 w1.heap.size (.slice oo os.length oc) (os.map (Ge.mk (kb := kb) (od := q.od))) := by
        have h1 := OwnR.base (hO.later l4) l2.size
        unfold OwnX OwnR at h1
        unfold OwnG OwnR
        rw [List.length_map, List.map_map]
        exact h1
      have hEG : ∀ e ∈ os.map (Ge.mk (kb := kb) (od := q.od)), EG w4 w1.heap.size e := fun e he => by
        obtain ⟨z, hz, rfl⟩ := List.mem_map.1 he
        exact ⟨(hG z hz).1.later l4, B4, hod, by have := (hG z hz).2; have := hT.od; show q.od.natAbs ≤ z.k.length; omega⟩
      refine (gsortAny_c (kb := kb) (od := q.od) w1.heap.size (.slice oo os.length oc) (os.map Ge.mk) w4 hoG hEG (by rw [List.length_map]; omega)).mono ?_
      rintro _ w5 ⟨l', t1, t2, t3, t4, t5⟩
      have l15 : Later w1 w5 := t5 w1 (l13.trans l4) (Nat.le_refl _)
      obtain ⟨gs, hgs⟩ : ∃ gs, gs = l'.map Ge.g := ⟨_, rfl⟩
      have hR : RecS gxC 3 w5 (.slice oo os.length oc) gs := by
        unfold RecS at t3 ⊢
        rw [hgs, List.length_map, List.map_map]
        exact t3
      have hI : ∀ z ∈ gs, GxIs w5 z := fun z hz => by
        rw [hgs] at hz
        obtain ⟨e, he, rfl⟩ := List.mem_map.1 hz
        exact (t4 e he).1.is
      have hab : gs.map Gx.abs = l'.map fun e => e.g.abs := by rw [hgs, List.map_map]; rfl
      have hs1 : Srt (rglt q.od) (gs.map Gx.abs) := by rw [hab]; exact gsrt_abs t1
      have hs2 : Stb (rglt q.od) (grsL m q (es.map El.abs)) (gs.map Gx.abs) := by
        rw [hab, ← hos]
        have := gstb_abs t2
        rw [List.map_map] at this
        exact this
      repeat' (first | (simp (disch := omega) only [push_cast, seval]) | refine iX ?_ ?_ <;> intros | refine aI (by omega) ?_ | fail)
      obtain ⟨_, _, _, _, _, _, _, _, _, _, _, a8⟩ := qdAt (QB w5 l15)
      have l05 := l01.trans l15
      have hgl : gs.length = os.length := (SlN.len hR).1.symm
      by_cases hl0 : 0 < q.lm
      · have e2 : decide (0 < q.lm) = true := decide_eq_true hl0
        by_cases hmn : (os.length : Int) ≤ q.lm
        · repeat' (first | (simp (disch := omega) only [push_cast, seval, a8, e2, addr_add_eq, Nat.zero_add]) | refine iX ?_ ?_ <;> intros | refine aI (by omega) ?_ | refine dq ?_)
          exact hfl w5 _ gs hR hI ⟨_, hs1, hs2, by rw [if_pos hl0, List.take_of_length_le (by rw [List.length_map, hgl]; omega)]⟩ l05
        · have hR' := RecS.pre gxC_len hR (j := q.lm.toNat) (by omega)
          repeat' (first | (simp (disch := omega) only [push_cast, seval, a8, e2, addr_add_eq, Nat.zero_add]) | refine iX ?_ ?_ <;> intros | refine aI (by omega) ?_ | refine dq ?_)
          exact hfl w5 _ (gs.take q.lm.toNat) hR' (fun z hz => hI z (List.mem_of_mem_take hz)) ⟨_, hs1, hs2, by rw [if_pos hl0, List.map_take]⟩ l05
      · have e2 : decide (0 < q.lm) = false := decide_eq_false hl0
        repeat' (first | (simp (disch := omega) only [push_cast, seval, a8, e2, addr_add_eq, Nat.zero_add]) | refine iX ?_ ?_ <;> intros | refine aI (by omega) ?_ | refine dq ?_)
        exact hfl w5 _ gs hR hI ⟨_, hs1, hs2, (if_neg hl0).symm⟩ l05
end Go.Proofs.YtnofalhkapmcnaaGreat
end
section
set_option linter.unusedSimpArgs false
namespace Go.Proofs.YtnofalhkapmcnaaGreat
open Go.Vc
set_option maxRecDepth 100000
theorem ints_c (u v : Value) (a b : List Int) (w : World) (hu : Sl w u (a.map i64v)) (hv : Sl w v (b.map i64v)) : FnC Tryz.prog 32 #[u, v] w fun r w' => r = .bool (decide (a = b)) ∧ Later w w' := by
  obtain ⟨oa, ca, rfl, g1, g2, hu, g3⟩ := hu.openM
  obtain ⟨ob, cb, rfl, k1, k2, hv, k3⟩ := hv.openM
  refine enter32 _ _ ?_
  unfold B32
  by_cases hlen : a.length = b.length
  · repeat' (first | (simp (disch := omega) only [push_cast, seval]) | refine iX ?_ ?_ <;> intros | refine aI (by omega) ?_ | refine dq ?_)
    refine vc_loop W32_0 (fun i : Nat => [(4, .bool false), (5, .int .i64 (i : Int))])
      (fun i w' => i ≤ a.length ∧ Later w w' ∧ a.take i = b.take i) (fun i => a.length - i) 0 (by decide) ?_ ?_ ?_
    · simp (disch := omega) only [push_cast, seval]
    · exact ⟨by omega, Later.refl _, by simp⟩
    rintro i uu w0 ⟨hi, hl, he⟩
    by_cases ha : i < a.length
    · have hb : i < b.length := by omega
      obtain ⟨aa, rfl⟩ := hu.some (show 0 < a.length by omega)
      obtain ⟨bb, rfl⟩ := hv.some (show 0 < b.length by omega)
      have c1 := (hu.later hl).atI ha
      have c2 := (hv.later hl).atI hb
      by_cases hab : a[i] = b[i]
      · repeat' (first | (simp (disch := omega) only [push_cast, seval, c1, c2, hab]) | refine iX ?_ ?_ <;> intros | refine aI (by omega) ?_ | refine dq ?_)
        intro w1 hl1
        repeat' (first | (simp (disch := omega) only [push_cast, seval]) | refine iX ?_ ?_ <;> intros | refine aI (by omega) ?_ | refine dq ?_)
        refine ⟨rfl, i + 1, by simp (disch := omega) only [push_cast, seval], ⟨by omega, hl.trans hl1, ?_⟩, by dsimp only; omega⟩
        rw [take_snoc a i ha, take_snoc b i hb, he, hab]
      · have hne : a ≠ b := fun e => by subst e; exact hab rfl
        repeat' (first | (simp (disch := omega) only [push_cast, seval, c1, c2, hab]) | refine iX ?_ ?_ <;> intros | refine aI (by omega) ?_ | refine dq ?_)
        intro w1 hl1
        repeat' (first | (simp (disch := omega) only [push_cast, seval]) | refine iX ?_ ?_ <;> intros | refine aI (by omega) ?_ | refine dq ?_)
        simp [hne, hl.trans hl1]
    · have e : i = a.length := by omega
      subst e
      rw [List.take_length, hlen, List.take_length] at he
      repeat' (first | (simp (disch := omega) only [push_cast, seval]) | refine iX ?_ ?_ <;> intros | refine aI (by omega) ?_ | refine dq ?_)
      simp [he, hl]
  · have hne : a ≠ b := fun e => by subst e; exact hlen rfl
    repeat' (first | (simp (disch := omega) only [push_cast, seval]) | refine iX ?_ ?_ <;> intros | refine aI (by omega) ?_ | refine dq ?_)
    simp [hne, Later.refl]
end Go.Proofs.YtnofalhkapmcnaaGreat
end
