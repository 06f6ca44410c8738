/- Contracts: rows merged, each class in its order: the whole. -/
import Derived.Test.YtnofalhkapmcnaaGreatPartH
set_option linter.all false
section
set_option linter.unusedSimpArgs false
namespace Go.Proofs.YtnofalhkapmcnaaGreat
open Go.Vc Go.Key Go.Stab
set_option maxRecDepth 100000
abbrev symF : FuncId := 139
def SymOk (D : Nat) : Prop := ∀ (B B' g c : Nat) (L X U V Y : List El) (a m b : Nat) (w : World), b - a = D → Sw w B B' g c L (X ++ (U ++ V) ++ Y) → X.length = a → U.length = m - a → V.length = b - m → a < m → m < b → Srt elt U → Srt elt V →
    FnC Tryz.prog 139 #[.slice (some ⟨g, 0, none⟩) (X ++ (U ++ V) ++ Y).length c, .int .i64 (a : Int), .int .i64 (m : Int), .int .i64 (b : Int), cmpV] w fun r w' => Mg B B' g c L X (U ++ V) Y w w'
set_option maxHeartbeats 4000000 in
theorem symMergeLo_c (D : Nat) (ih : ∀ d, d < D → SymOk d) (B B' g c : Nat) (L X U V Y : List El) (a m b : Nat) (w : World) (hD : b - a = D) (h : Sw w B B' g c L (X ++ (U ++ V) ++ Y)) (hX : X.length = a) (hU : U.length = m - a) (hV : V.length = b - m) (ham : a < m) (hmb : m < b) (sU : Srt elt U) (sV : Srt elt V) (hmm0 : (a + b) / 2 < m) (hA : ¬ m = a + 1) (hB : ¬ b = m + 1) :
    FnC Tryz.prog 139 #[.slice (some ⟨g, 0, none⟩) (X ++ (U ++ V) ++ Y).length c, .int .i64 (a : Int), .int .i64 (m : Int), .int .i64 (b : Int), cmpV] w fun r w' => Mg B B' g c L X (U ++ V) Y w w' := by
  have hs := elt_swo
  have hbig := h.big
  have hlen : (X ++ (U ++ V) ++ Y).length = b + Y.length := by simp only [List.length_append]; omega
  rw [hlen] at hbig
  have gM : ∀ i, a ≤ i → i < b → (X ++ (U ++ V) ++ Y)[i]! = (U ++ V)[i - a]! := fun i h1 h2 => by
    rw [cur_UV _ _ _ (by omega) (by simp only [List.length_append]; omega), hX]
  generalize hcur : X ++ (U ++ V) ++ Y = cur at *
  generalize hN : cur.length = N at *
  obtain ⟨mid, hmid⟩ : ∃ mid, mid = (a + b) / 2 := ⟨_, rfl⟩
  obtain ⟨p1, p2, p3, p4, p5, p6⟩ := sym_in ham hmb
  obtain ⟨S0, hS0⟩ : ∃ S0, S0 = s0 a m b := ⟨_, rfl⟩
  obtain ⟨R0, hR0⟩ : ∃ R0, R0 = r0 a m b := ⟨_, rfl⟩
  have hS0' : S0 = if mid < m then mid + m - b else a := by rw [hS0, hmid]; rfl
  have hR0' : R0 = if mid < m then mid else m := by rw [hR0, hmid]; rfl
  have p2' : S0 ≤ R0 := by rw [hS0, hR0]; exact p2
  have p1' : a ≤ S0 := by rw [hS0]; exact p1
  have p3' : R0 ≤ m := by rw [hR0]; exact p3
  have p4' : R0 ≤ mid := by rw [hR0, hmid]; exact p4
  have p5' : ∀ c, S0 ≤ c → c < R0 → m ≤ mid + m - 1 - c ∧ mid + m - 1 - c < b := by rw [hS0, hR0, hmid]; exact p5
  have p6' : mid + m - S0 ≤ b := by rw [hS0, hmid]; exact p6
  clear p1 p2 p3 p4 p5 p6
  have e1 : ((a : Int) + (b : Int)) / 2 = (mid : Int) := by omega
  have e2 : ((a : Int) + (b : Int)) / 2 ^ 1 = (mid : Int) := by rw [Int.pow_succ]; simpa using e1
  refine enter139 _ _ _ _ _ ?_
  unfold B139
  have hmm : mid < m := by omega
  · rw [if_pos hmm] at hS0' hR0'
    have e3 : (mid : Int) + (m : Int) - (b : Int) = (S0 : Int) := by omega
    have e4 : (R0 : Int) = (mid : Int) := by omega
    repeat' (first | (simp (disch := omega) only [push_cast, seval, e1, e2]) | refine iX ?_ ?_ <;> intros | refine aI (by omega) ?_ | refine dq ?_)
    refine vc_loop W139_4 (fun p : Nat × Nat => [(20, .int .i64 (p.1 : Int)), (21, .int .i64 (p.2 : Int))])
      (fun p w' => S0 ≤ p.1 ∧ p.1 ≤ p.2 ∧ p.2 ≤ R0 ∧ (p.1 = S0 ∨ elt cur[mid + m - p.1]! cur[p.1 - 1]! = false) ∧ (p.2 = R0 ∨ elt cur[mid + m - 1 - p.2]! cur[p.2]! = true) ∧ Later w w') (fun p => p.2 - p.1) (S0, R0) (by decide) ?_ ?_ ?_
    · simp (disch := omega) only [push_cast, seval, e3, e4]
    · exact ⟨Nat.le_refl _, p2', Nat.le_refl _, .inl rfl, .inl rfl, Later.refl _⟩
    rintro ⟨s, t⟩ uu w1 ⟨q1, q2, q3, q4, q5, l1⟩
    dsimp only at q1 q2 q3 q4 q5
    have h1 := h.later l1
    by_cases hst : s < t
    · obtain ⟨r, hr⟩ : ∃ r : Nat, r = (s + t) / 2 := ⟨_, rfl⟩
      have f1 : ((s : Int) + (t : Int)) / 2 = (r : Int) := by omega
      have f2 : ((s : Int) + (t : Int)) / 2 ^ 1 = (r : Int) := by rw [Int.pow_succ]; simpa using f1
      obtain ⟨b1, b2⟩ := p5' r (by omega) (by omega)
      have t1 : ((r : Int)).toNat = r := by omega
      have t2 : ((mid : Int) + (m : Int) - 1 - (r : Int)).toNat = mid + m - 1 - r := by omega
      have fr := h1.at (i := r) (by omega)
      have fa := h1.at (i := mid + m - 1 - r) (by omega)
      have er := h1.elAt (i := r) (by omega)
      have ea := h1.elAt (i := mid + m - 1 - r) (by omega)
      repeat' (first | (simp (disch := omega) only [push_cast, seval, f1, f2, t1, t2, fr, fa]) | refine iX ?_ ?_ <;> intros | refine aI (by omega) ?_ | refine dq ?_)
      refine QFn.of hb70 (v := .int .i64 (ecmp cur[mid + m - 1 - r]! cur[r]!)) (fun w' hl => rcompare_c _ _ w' (ea.is.later hl) (er.is.later hl)) ?_
      have hcmp : elt cur[mid + m - 1 - r]! cur[r]! = decide (ecmp cur[mid + m - 1 - r]! cur[r]! < 0) := rfl
      by_cases hlt : ecmp cur[mid + m - 1 - r]! cur[r]! < 0
      · repeat' (first | (simp (disch := omega) only [push_cast, seval]) | refine iX ?_ ?_ <;> intros | refine aI (by omega) ?_ | refine dq ?_)
        intro w2 l2
        repeat' (first | (simp (disch := omega) only [push_cast, seval]) | refine iX ?_ ?_ <;> intros | refine aI (by omega) ?_ | refine dq ?_)
        exact ⟨rfl, (s, r), by simp (disch := omega) only [push_cast, seval], ⟨q1, by dsimp only; omega, by dsimp only; omega, q4, .inr (by rw [hcmp]; exact decide_eq_true hlt), l1.trans l2⟩, by dsimp only; omega⟩
      · repeat' (first | (simp (disch := omega) only [push_cast, seval]) | refine iX ?_ ?_ <;> intros | refine aI (by omega) ?_ | refine dq ?_)
        intro w2 l2
        repeat' (first | (simp (disch := omega) only [push_cast, seval]) | refine iX ?_ ?_ <;> intros | refine aI (by omega) ?_ | refine dq ?_)
        exact ⟨rfl, (r + 1, t), by simp (disch := omega) only [push_cast, seval], ⟨by dsimp only; omega, by dsimp only; omega, q3, .inr (by rw [show r + 1 - 1 = r by omega, show mid + m - (r + 1) = mid + m - 1 - r by omega, hcmp]; exact decide_eq_false hlt), q5, l1.trans l2⟩, by dsimp only; omega⟩
    · have hts : t = s := by omega
      subst hts
      have k1 : t = S0 ∨ elt (U ++ V)[mid + m - t - a]! (U ++ V)[t - 1 - a]! = false := by
        rcases q4 with h | h
        · exact .inl h
        · by_cases h0 : t = S0
          · exact .inl h0
          · obtain ⟨b1, b2⟩ := p5' (t - 1) (by omega) (by omega)
            right
            rw [← gM (mid + m - t) (by omega) (by omega), ← gM (t - 1) (by omega) (by omega)]
            exact h
      have k2 : t = R0 ∨ elt (U ++ V)[mid + m - 1 - t - a]! (U ++ V)[t - a]! = true := by
        rcases q5 with h | h
        · exact .inl h
        · by_cases h0 : t = R0
          · exact .inl h0
          · obtain ⟨b1, b2⟩ := p5' t (by omega) (by omega)
            right
            rw [← gM (mid + m - 1 - t) (by omega) (by omega), ← gM t (by omega) (by omega)]
            exact h
      obtain ⟨huv, hAB⟩ := sym_facts hs hU hV ham hmb sU sV (by rw [← hS0]; exact q1) (by rw [← hR0]; exact q3) (by rw [← hS0, ← hmid]; exact k1) (by rw [← hR0, ← hmid]; exact k2) (fun h => .inr (sym_r h))
      rw [← hmid] at huv hAB
      obtain ⟨E, hE⟩ : ∃ E, E = mid + m - t := ⟨_, rfl⟩
      have eE : (mid : Int) + (m : Int) - (t : Int) = (E : Int) := by omega
      have hEb : E ≤ b := by omega
      rw [← hE] at huv hAB
      have hUU : U = U.take (t - a) ++ U.drop (t - a) := (List.take_append_drop _ _).symm
      have hVV : V = V.take (E - m) ++ V.drop (E - m) := (List.take_append_drop _ _).symm
      have n1 : (U.take (t - a)).length = t - a := by rw [List.length_take]; omega
      have n2 : (U.drop (t - a)).length = m - t := by rw [List.length_drop]; omega
      have n3 : (V.take (E - m)).length = E - m := by rw [List.length_take]; omega
      have n4 : (V.drop (E - m)).length = b - E := by rw [List.length_drop]; omega
      generalize U.take (t - a) = A0 at *
      generalize U.drop (t - a) = u at *
      generalize V.take (E - m) = v at *
      generalize V.drop (E - m) = B0 at *
      rw [hUU] at sU
      rw [hVV] at sV
      have hcl : X ++ (A0 ++ u ++ (v ++ B0)) ++ Y = cur := by rw [← hUU, ← hVV]; exact hcur
      obtain ⟨sA, su, _⟩ := Srt.append.1 sU
      obtain ⟨sv, sB, _⟩ := Srt.append.1 sV
      have fin : ∀ w' Lz Rz, Srt elt Lz → Srt elt Rz → Stb elt (A0 ++ v) Lz → Stb elt (u ++ B0) Rz → Sw w' B B' g c L (X ++ Lz ++ (Rz ++ Y)) → Chg w w' [g] → Mg B B' g c L X (U ++ V) Y w w' := by
        intro w' Lz Rz z1 z2 z3 z4 z5 z6
        obtain ⟨y1, y2⟩ := halves hs sU sV huv hAB z3 z4 z1 z2
        refine ⟨Lz ++ Rz, y1, ?_, by simpa using z5, z6⟩
        rw [hUU, hVV]; exact y2
      have rotH : 0 < u.length → 0 < v.length → FnC Tryz.prog 148 #[.slice (some ⟨g, 0, none⟩) N c, .int .i64 (t : Int), .int .i64 (m : Int), .int .i64 (E : Int), cmpV] w1 fun r w' => Sw w' B B' g c L (X ++ A0 ++ v ++ u ++ (B0 ++ Y)) ∧ Chg w1 w' [g] := by
        intro hu hv
        have hin : Sw w1 B B' g c L (X ++ A0 ++ u ++ v ++ (B0 ++ Y)) := by
          have := h1
          rw [← hcl] at this
          simpa using this
        have := rotate_c B B' g c L (X ++ A0) u v (B0 ++ Y) w1 hin hu hv
        have a0 : (X ++ A0 ++ u ++ v ++ (B0 ++ Y)).length = N := by rw [← hN, ← hcl]; simp only [List.length_append]; omega
        have a1 : (X ++ A0).length = t := by rw [List.length_append]; omega
        have a2 : (X ++ A0).length + u.length = m := by omega
        have a3 : (X ++ A0).length + u.length + v.length = E := by omega
        rw [a0, a3, a2, a1] at this
        exact this
      have same : u = [] ∨ v = [] → ∀ w', Sw w' B B' g c L cur → Sw w' B B' g c L (X ++ A0 ++ v ++ u ++ (B0 ++ Y)) := by
        intro huv w' hw
        rw [← hcl] at hw
        rcases huv with rfl | rfl
        · simpa using hw
        · simpa using hw
      have mL : ∀ w2, Sw w2 B B' g c L (X ++ A0 ++ v ++ u ++ (B0 ++ Y)) → a < t → t < mid → FnC Tryz.prog symF #[.slice (some ⟨g, 0, none⟩) N c, .int .i64 (a : Int), .int .i64 (t : Int), .int .i64 (mid : Int), cmpV] w2 fun r w' => Mg B B' g c L X (A0 ++ v) (u ++ (B0 ++ Y)) w2 w' := by
        intro w2 h2 z1 z2
        have := ih (mid - a) (by omega) B B' g c L X A0 v (u ++ (B0 ++ Y)) a t mid w2 rfl (by simpa using h2) hX n1 (by omega) z1 z2 sA sv
        have a0 : (X ++ (A0 ++ v) ++ (u ++ (B0 ++ Y))).length = N := by rw [← hN, ← hcl]; simp only [List.length_append]; omega
        rw [a0] at this
        exact this
      have noL : ¬ (a < t ∧ t < mid) → ∃ Lz, Srt elt Lz ∧ Stb elt (A0 ++ v) Lz ∧ Lz = A0 ++ v := by
        intro hno
        by_cases ht : a < t
        · have : v = [] := List.length_eq_zero_iff.1 (by omega)
          subst this
          exact ⟨A0 ++ [], by simpa using sA, Stb.refl _, rfl⟩
        · have : A0 = [] := List.length_eq_zero_iff.1 (by omega)
          subst this
          exact ⟨[] ++ v, by simpa using sv, Stb.refl _, rfl⟩
      have mR : ∀ w3 Lz, Stb elt (A0 ++ v) Lz → Sw w3 B B' g c L (X ++ Lz ++ (u ++ (B0 ++ Y))) → mid < E → E < b → FnC Tryz.prog symF #[.slice (some ⟨g, 0, none⟩) N c, .int .i64 (mid : Int), .int .i64 (E : Int), .int .i64 (b : Int), cmpV] w3 fun r w' => Mg B B' g c L (X ++ Lz) (u ++ B0) Y w3 w' := by
        intro w3 Lz hz h3 z1 z2
        have hzl := hz.1
        rw [List.length_append] at hzl
        have hXL : (X ++ Lz).length = mid := by rw [List.length_append]; omega
        have := ih (b - mid) (by omega) B B' g c L (X ++ Lz) u B0 Y mid E b w3 rfl (by simpa using h3) hXL (by omega) n4 z1 z2 su sB
        have a0 : (X ++ Lz ++ (u ++ B0) ++ Y).length = N := by rw [← hN, ← hcl]; simp only [List.length_append]; omega
        rw [a0] at this
        exact this
      have noR : ¬ (mid < E ∧ E < b) → Srt elt (u ++ B0) := by
        intro hno
        by_cases ht : mid < E
        · have : B0 = [] := List.length_eq_zero_iff.1 (by omega)
          subst this
          simpa using su
        · have : u = [] := List.length_eq_zero_iff.1 (by omega)
          subst this
          simpa using sB
      have c01 : Chg w w1 [g] := Chg.of_later l1
      have m2 := n2
      have m3 : v.length = mid - t := by omega
      have nu : t ≤ m := by omega
      have nv : t ≤ mid := by omega
      have namid : a < mid := by omega
      clear huv hAB hUU hVV n1 n3 n4 sU sV sA su sv sB k1 k2 q4 q5 gM hs hcl ih p1' p2' p3' p4' p5' p6' hS0 hR0 hS0' hR0' e1 e2 e3 e4 hmid hst q1 q2 q3 hA hB hX hU hV hlen h hD
      have pp : t < m := by omega
      by_cases qq : t < mid
      · repeat' (first | (simp (disch := omega) only [push_cast, seval, eE]) | refine iX ?_ ?_ <;> intros | refine aI (by omega) ?_ | refine dq ?_)
        refine (rotH (by omega) (by omega)).mono ?_
        rintro _ w2 ⟨h2, c2⟩
        have c02 := c01.trans c2
        clear rotH same
        by_cases ll : a < t
        · repeat' (first | (simp (disch := omega) only [push_cast, seval]) | refine iX ?_ ?_ <;> intros | refine aI (by omega) ?_ | refine dq ?_)
          refine (mL w2 h2 ll (by omega)).mono ?_
          rintro _ w3 ⟨Lz, z1, z2, h3, c3⟩
          have c03 := c02.trans c3
          by_cases rr : E < b
          · repeat' (first | (simp (disch := omega) only [push_cast, seval]) | refine iX ?_ ?_ <;> intros | refine aI (by omega) ?_ | refine dq ?_)
            refine (mR w3 Lz z2 h3 (by omega) rr).mono ?_
            rintro _ w4 ⟨Rz, y1, y2, y3, y4⟩
            have hf := fin w4 Lz Rz z1 y1 z2 y2 (by simpa using y3) (c03.trans y4)
            clear mR fin
            repeat' (first | (simp (disch := omega) only [push_cast, seval]) | refine iX ?_ ?_ <;> intros | refine aI (by omega) ?_ | refine dq ?_)
            exact hf
          · have hf := fin w3 Lz (u ++ B0) z1 (noR (by omega)) z2 (Stb.refl _) (by simpa using h3) c03
            clear mR fin
            repeat' (first | (simp (disch := omega) only [push_cast, seval]) | refine iX ?_ ?_ <;> intros | refine aI (by omega) ?_ | refine dq ?_)
            exact hf
        · obtain ⟨Lz, z1, z2, hLz⟩ := noL (by omega)
          have h3 : Sw w2 B B' g c L (X ++ Lz ++ (u ++ (B0 ++ Y))) := by rw [hLz]; simpa using h2
          have c03 := c02
          by_cases rr : E < b
          · repeat' (first | (simp (disch := omega) only [push_cast, seval]) | refine iX ?_ ?_ <;> intros | refine aI (by omega) ?_ | refine dq ?_)
            refine (mR w2 Lz z2 h3 (by omega) rr).mono ?_
            rintro _ w4 ⟨Rz, y1, y2, y3, y4⟩
            have hf := fin w4 Lz Rz z1 y1 z2 y2 (by simpa using y3) (c03.trans y4)
            clear mR fin
            repeat' (first | (simp (disch := omega) only [push_cast, seval]) | refine iX ?_ ?_ <;> intros | refine aI (by omega) ?_ | refine dq ?_)
            exact hf
          · have hf := fin w2 Lz (u ++ B0) z1 (noR (by omega)) z2 (Stb.refl _) (by simpa using h3) c03
            clear mR fin
            repeat' (first | (simp (disch := omega) only [push_cast, seval]) | refine iX ?_ ?_ <;> intros | refine aI (by omega) ?_ | refine dq ?_)
            exact hf
      · have h2 := same (by right; exact List.length_eq_zero_iff.1 (by omega)) w1 h1
        have c02 := c01
        obtain ⟨Lz, z1, z2, hLz⟩ := noL (by omega)
        have h3 : Sw w1 B B' g c L (X ++ Lz ++ (u ++ (B0 ++ Y))) := by rw [hLz]; simpa using h2
        have c03 := c02
        have rr : E < b := by omega
        repeat' (first | (simp (disch := omega) only [push_cast, seval, eE]) | refine iX ?_ ?_ <;> intros | refine aI (by omega) ?_ | refine dq ?_)
        refine (mR w1 Lz z2 h3 (by omega) rr).mono ?_
        rintro _ w4 ⟨Rz, y1, y2, y3, y4⟩
        have hf := fin w4 Lz Rz z1 y1 z2 y2 (by simpa using y3) (c03.trans y4)
        clear mR fin
        repeat' (first | (simp (disch := omega) only [push_cast, seval]) | refine iX ?_ ?_ <;> intros | refine aI (by omega) ?_ | refine dq ?_)
        exact hf
set_option maxHeartbeats 4000000 in
theorem symMergeHi_c (D : Nat) (ih : ∀ d, d < D → SymOk d) (B B' g c : Nat) (L X U V Y : List El) (a m b : Nat) (w : World) (hD : b - a = D) (h : Sw w B B' g c L (X ++ (U ++ V) ++ Y)) (hX : X.length = a) (hU : U.length = m - a) (hV : V.length = b - m) (ham : a < m) (hmb : m < b) (sU : Srt elt U) (sV : Srt elt V) (hmm0 : ¬ (a + b) / 2 < m) (hA : ¬ m = a + 1) (hB : ¬ b = m + 1) :
    FnC Tryz.prog 139 #[.slice (some ⟨g, 0, none⟩) (X ++ (U ++ V) ++ Y).length c, .int .i64 (a : Int), .int .i64 (m : Int), .int .i64 (b : Int), cmpV] w fun r w' => Mg B B' g c L X (U ++ V) Y w w' := by
  have hs := elt_swo
  have hbig := h.big
  have hlen : (X ++ (U ++ V) ++ Y).length = b + Y.length := by simp only [List.length_append]; omega
  rw [hlen] at hbig
  have gM : ∀ i, a ≤ i → i < b → (X ++ (U ++ V) ++ Y)[i]! = (U ++ V)[i - a]! := fun i h1 h2 => by
    rw [cur_UV _ _ _ (by omega) (by simp only [List.length_append]; omega), hX]
  generalize hcur : X ++ (U ++ V) ++ Y = cur at *
  generalize hN : cur.length = N at *
  obtain ⟨mid, hmid⟩ : ∃ mid, mid = (a + b) / 2 := ⟨_, rfl⟩
  obtain ⟨p1, p2, p3, p4, p5, p6⟩ := sym_in ham hmb
  obtain ⟨S0, hS0⟩ : ∃ S0, S0 = s0 a m b := ⟨_, rfl⟩
  obtain ⟨R0, hR0⟩ : ∃ R0, R0 = r0 a m b := ⟨_, rfl⟩
  have hS0' : S0 = if mid < m then mid + m - b else a := by rw [hS0, hmid]; rfl
  have hR0' : R0 = if mid < m then mid else m := by rw [hR0, hmid]; rfl
  have p2' : S0 ≤ R0 := by rw [hS0, hR0]; exact p2
  have p1' : a ≤ S0 := by rw [hS0]; exact p1
  have p3' : R0 ≤ m := by rw [hR0]; exact p3
  have p4' : R0 ≤ mid := by rw [hR0, hmid]; exact p4
  have p5' : ∀ c, S0 ≤ c → c < R0 → m ≤ mid + m - 1 - c ∧ mid + m - 1 - c < b := by rw [hS0, hR0, hmid]; exact p5
  have p6' : mid + m - S0 ≤ b := by rw [hS0, hmid]; exact p6
  clear p1 p2 p3 p4 p5 p6
  have e1 : ((a : Int) + (b : Int)) / 2 = (mid : Int) := by omega
  have e2 : ((a : Int) + (b : Int)) / 2 ^ 1 = (mid : Int) := by rw [Int.pow_succ]; simpa using e1
  refine enter139 _ _ _ _ _ ?_
  unfold B139
  have hmm : ¬ mid < m := by omega
  · rw [if_neg hmm] at hS0' hR0'
    have e3 : (S0 : Int) = (a : Int) := by omega
    have e4 : (R0 : Int) = (m : Int) := by omega
    repeat' (first | (simp (disch := omega) only [push_cast, seval, e1, e2]) | refine iX ?_ ?_ <;> intros | refine aI (by omega) ?_ | refine dq ?_)
    refine vc_loop W139_4 (fun p : Nat × Nat => [(20, .int .i64 (p.1 : Int)), (21, .int .i64 (p.2 : Int))])
      (fun p w' => S0 ≤ p.1 ∧ p.1 ≤ p.2 ∧ p.2 ≤ R0 ∧ (p.1 = S0 ∨ elt cur[mid + m - p.1]! cur[p.1 - 1]! = false) ∧ (p.2 = R0 ∨ elt cur[mid + m - 1 - p.2]! cur[p.2]! = true) ∧ Later w w') (fun p => p.2 - p.1) (S0, R0) (by decide) ?_ ?_ ?_
    · simp (disch := omega) only [push_cast, seval, e3, e4]
    · exact ⟨Nat.le_refl _, p2', Nat.le_refl _, .inl rfl, .inl rfl, Later.refl _⟩
    rintro ⟨s, t⟩ uu w1 ⟨q1, q2, q3, q4, q5, l1⟩
    dsimp only at q1 q2 q3 q4 q5
    have h1 := h.later l1
    by_cases hst : s < t
    · obtain ⟨r, hr⟩ : ∃ r : Nat, r = (s + t) / 2 := ⟨_, rfl⟩
      have f1 : ((s : Int) + (t : Int)) / 2 = (r : Int) := by omega
      have f2 : ((s : Int) + (t : Int)) / 2 ^ 1 = (r : Int) := by rw [Int.pow_succ]; simpa using f1
      obtain ⟨b1, b2⟩ := p5' r (by omega) (by omega)
      have t1 : ((r : Int)).toNat = r := by omega
      have t2 : ((mid : Int) + (m : Int) - 1 - (r : Int)).toNat = mid + m - 1 - r := by omega
      have fr := h1.at (i := r) (by omega)
      have fa := h1.at (i := mid + m - 1 - r) (by omega)
      have er := h1.elAt (i := r) (by omega)
      have ea := h1.elAt (i := mid + m - 1 - r) (by omega)
      repeat' (first | (simp (disch := omega) only [push_cast, seval, f1, f2, t1, t2, fr, fa]) | refine iX ?_ ?_ <;> intros | refine aI (by omega) ?_ | refine dq ?_)
      refine QFn.of hb70 (v := .int .i64 (ecmp cur[mid + m - 1 - r]! cur[r]!)) (fun w' hl => rcompare_c _ _ w' (ea.is.later hl) (er.is.later hl)) ?_
      have hcmp : elt cur[mid + m - 1 - r]! cur[r]! = decide (ecmp cur[mid + m - 1 - r]! cur[r]! < 0) := rfl
      by_cases hlt : ecmp cur[mid + m - 1 - r]! cur[r]! < 0
      · repeat' (first | (simp (disch := omega) only [push_cast, seval]) | refine iX ?_ ?_ <;> intros | refine aI (by omega) ?_ | refine dq ?_)
        intro w2 l2
        repeat' (first | (simp (disch := omega) only [push_cast, seval]) | refine iX ?_ ?_ <;> intros | refine aI (by omega) ?_ | refine dq ?_)
        exact ⟨rfl, (s, r), by simp (disch := omega) only [push_cast, seval], ⟨q1, by dsimp only; omega, by dsimp only; omega, q4, .inr (by rw [hcmp]; exact decide_eq_true hlt), l1.trans l2⟩, by dsimp only; omega⟩
      · repeat' (first | (simp (disch := omega) only [push_cast, seval]) | refine iX ?_ ?_ <;> intros | refine aI (by omega) ?_ | refine dq ?_)
        intro w2 l2
        repeat' (first | (simp (disch := omega) only [push_cast, seval]) | refine iX ?_ ?_ <;> intros | refine aI (by omega) ?_ | refine dq ?_)
        exact ⟨rfl, (r + 1, t), by simp (disch := omega) only [push_cast, seval], ⟨by dsimp only; omega, by dsimp only; omega, q3, .inr (by rw [show r + 1 - 1 = r by omega, show mid + m - (r + 1) = mid + m - 1 - r by omega, hcmp]; exact decide_eq_false hlt), q5, l1.trans l2⟩, by dsimp only; omega⟩
    · have hts : t = s := by omega
      subst hts
      have k1 : t = S0 ∨ elt (U ++ V)[mid + m - t - a]! (U ++ V)[t - 1 - a]! = false := by
        rcases q4 with h | h
        · exact .inl h
        · by_cases h0 : t = S0
          · exact .inl h0
          · obtain ⟨b1, b2⟩ := p5' (t - 1) (by omega) (by omega)
            right
            rw [← gM (mid + m - t) (by omega) (by omega), ← gM (t - 1) (by omega) (by omega)]
            exact h
      have k2 : t = R0 ∨ elt (U ++ V)[mid + m - 1 - t - a]! (U ++ V)[t - a]! = true := by
        rcases q5 with h | h
        · exact .inl h
        · by_cases h0 : t = R0
          · exact .inl h0
          · obtain ⟨b1, b2⟩ := p5' t (by omega) (by omega)
            right
            rw [← gM (mid + m - 1 - t) (by omega) (by omega), ← gM t (by omega) (by omega)]
            exact h
      obtain ⟨huv, hAB⟩ := sym_facts hs hU hV ham hmb sU sV (by rw [← hS0]; exact q1) (by rw [← hR0]; exact q3) (by rw [← hS0, ← hmid]; exact k1) (by rw [← hR0, ← hmid]; exact k2) (fun h => .inr (sym_r h))
      rw [← hmid] at huv hAB
      obtain ⟨E, hE⟩ : ∃ E, E = mid + m - t := ⟨_, rfl⟩
      have eE : (mid : Int) + (m : Int) - (t : Int) = (E : Int) := by omega
      have hEb : E ≤ b := by omega
      rw [← hE] at huv hAB
      have hUU : U = U.take (t - a) ++ U.drop (t - a) := (List.take_append_drop _ _).symm
      have hVV : V = V.take (E - m) ++ V.drop (E - m) := (List.take_append_drop _ _).symm
      have n1 : (U.take (t - a)).length = t - a := by rw [List.length_take]; omega
      have n2 : (U.drop (t - a)).length = m - t := by rw [List.length_drop]; omega
      have n3 : (V.take (E - m)).length = E - m := by rw [List.length_take]; omega
      have n4 : (V.drop (E - m)).length = b - E := by rw [List.length_drop]; omega
      generalize U.take (t - a) = A0 at *
      generalize U.drop (t - a) = u at *
      generalize V.take (E - m) = v at *
      generalize V.drop (E - m) = B0 at *
      rw [hUU] at sU
      rw [hVV] at sV
      have hcl : X ++ (A0 ++ u ++ (v ++ B0)) ++ Y = cur := by rw [← hUU, ← hVV]; exact hcur
      obtain ⟨sA, su, _⟩ := Srt.append.1 sU
      obtain ⟨sv, sB, _⟩ := Srt.append.1 sV
      have fin : ∀ w' Lz Rz, Srt elt Lz → Srt elt Rz → Stb elt (A0 ++ v) Lz → Stb elt (u ++ B0) Rz → Sw w' B B' g c L (X ++ Lz ++ (Rz ++ Y)) → Chg w w' [g] → Mg B B' g c L X (U ++ V) Y w w' := by
        intro w' Lz Rz z1 z2 z3 z4 z5 z6
        obtain ⟨y1, y2⟩ := halves hs sU sV huv hAB z3 z4 z1 z2
        refine ⟨Lz ++ Rz, y1, ?_, by simpa using z5, z6⟩
        rw [hUU, hVV]; exact y2
      have rotH : 0 < u.length → 0 < v.length → FnC Tryz.prog 148 #[.slice (some ⟨g, 0, none⟩) N c, .int .i64 (t : Int), .int .i64 (m : Int), .int .i64 (E : Int), cmpV] w1 fun r w' => Sw w' B B' g c L (X ++ A0 ++ v ++ u ++ (B0 ++ Y)) ∧ Chg w1 w' [g] := by
        intro hu hv
        have hin : Sw w1 B B' g c L (X ++ A0 ++ u ++ v ++ (B0 ++ Y)) := by
          have := h1
          rw [← hcl] at this
          simpa using this
        have := rotate_c B B' g c L (X ++ A0) u v (B0 ++ Y) w1 hin hu hv
        have a0 : (X ++ A0 ++ u ++ v ++ (B0 ++ Y)).length = N := by rw [← hN, ← hcl]; simp only [List.length_append]; omega
        have a1 : (X ++ A0).length = t := by rw [List.length_append]; omega
        have a2 : (X ++ A0).length + u.length = m := by omega
        have a3 : (X ++ A0).length + u.length + v.length = E := by omega
        rw [a0, a3, a2, a1] at this
        exact this
      have same : u = [] ∨ v = [] → ∀ w', Sw w' B B' g c L cur → Sw w' B B' g c L (X ++ A0 ++ v ++ u ++ (B0 ++ Y)) := by
        intro huv w' hw
        rw [← hcl] at hw
        rcases huv with rfl | rfl
        · simpa using hw
        · simpa using hw
      have mL : ∀ w2, Sw w2 B B' g c L (X ++ A0 ++ v ++ u ++ (B0 ++ Y)) → a < t → t < mid → FnC Tryz.prog symF #[.slice (some ⟨g, 0, none⟩) N c, .int .i64 (a : Int), .int .i64 (t : Int), .int .i64 (mid : Int), cmpV] w2 fun r w' => Mg B B' g c L X (A0 ++ v) (u ++ (B0 ++ Y)) w2 w' := by
        intro w2 h2 z1 z2
        have := ih (mid - a) (by omega) B B' g c L X A0 v (u ++ (B0 ++ Y)) a t mid w2 rfl (by simpa using h2) hX n1 (by omega) z1 z2 sA sv
        have a0 : (X ++ (A0 ++ v) ++ (u ++ (B0 ++ Y))).length = N := by rw [← hN, ← hcl]; simp only [List.length_append]; omega
        rw [a0] at this
        exact this
      have noL : ¬ (a < t ∧ t < mid) → ∃ Lz, Srt elt Lz ∧ Stb elt (A0 ++ v) Lz ∧ Lz = A0 ++ v := by
        intro hno
        by_cases ht : a < t
        · have : v = [] := List.length_eq_zero_iff.1 (by omega)
          subst this
          exact ⟨A0 ++ [], by simpa using sA, Stb.refl _, rfl⟩
        · have : A0 = [] := List.length_eq_zero_iff.1 (by omega)
          subst this
          exact ⟨[] ++ v, by simpa using sv, Stb.refl _, rfl⟩
      have mR : ∀ w3 Lz, Stb elt (A0 ++ v) Lz → Sw w3 B B' g c L (X ++ Lz ++ (u ++ (B0 ++ Y))) → mid < E → E < b → FnC Tryz.prog symF #[.slice (some ⟨g, 0, none⟩) N c, .int .i64 (mid : Int), .int .i64 (E : Int), .int .i64 (b : Int), cmpV] w3 fun r w' => Mg B B' g c L (X ++ Lz) (u ++ B0) Y w3 w' := by
        intro w3 Lz hz h3 z1 z2
        have hzl := hz.1
        rw [List.length_append] at hzl
        have hXL : (X ++ Lz).length = mid := by rw [List.length_append]; omega
        have := ih (b - mid) (by omega) B B' g c L (X ++ Lz) u B0 Y mid E b w3 rfl (by simpa using h3) hXL (by omega) n4 z1 z2 su sB
        have a0 : (X ++ Lz ++ (u ++ B0) ++ Y).length = N := by rw [← hN, ← hcl]; simp only [List.length_append]; omega
        rw [a0] at this
        exact this
      have noR : ¬ (mid < E ∧ E < b) → Srt elt (u ++ B0) := by
        intro hno
        by_cases ht : mid < E
        · have : B0 = [] := List.length_eq_zero_iff.1 (by omega)
          subst this
          simpa using su
        · have : u = [] := List.length_eq_zero_iff.1 (by omega)
          subst this
          simpa using sB
      have c01 : Chg w w1 [g] := Chg.of_later l1
      have m2 := n2
      have m3 : v.length = mid - t := by omega
      have nu : t ≤ m := by omega
      have nv : t ≤ mid := by omega
      have namid : a < mid := by omega
      clear huv hAB hUU hVV n1 n3 n4 sU sV sA su sv sB k1 k2 q4 q5 gM hs hcl ih p1' p2' p3' p4' p5' p6' hS0 hR0 hS0' hR0' e1 e2 e3 e4 hmid hst q1 q2 q3 hA hB hX hU hV hlen h hD
      by_cases pp : t < m
      · have qq : t < mid := by omega
        repeat' (first | (simp (disch := omega) only [push_cast, seval, eE]) | refine iX ?_ ?_ <;> intros | refine aI (by omega) ?_ | refine dq ?_)
        refine (rotH (by omega) (by omega)).mono ?_
        rintro _ w2 ⟨h2, c2⟩
        have c02 := c01.trans c2
        clear rotH same
        by_cases ll : a < t
        · repeat' (first | (simp (disch := omega) only [push_cast, seval]) | refine iX ?_ ?_ <;> intros | refine aI (by omega) ?_ | refine dq ?_)
          refine (mL w2 h2 ll (by omega)).mono ?_
          rintro _ w3 ⟨Lz, z1, z2, h3, c3⟩
          have c03 := c02.trans c3
          by_cases rr : E < b
          · repeat' (first | (simp (disch := omega) only [push_cast, seval]) | refine iX ?_ ?_ <;> intros | refine aI (by omega) ?_ | refine dq ?_)
            refine (mR w3 Lz z2 h3 (by omega) rr).mono ?_
            rintro _ w4 ⟨Rz, y1, y2, y3, y4⟩
            have hf := fin w4 Lz Rz z1 y1 z2 y2 (by simpa using y3) (c03.trans y4)
            clear mR fin
            repeat' (first | (simp (disch := omega) only [push_cast, seval]) | refine iX ?_ ?_ <;> intros | refine aI (by omega) ?_ | refine dq ?_)
            exact hf
          · have hf := fin w3 Lz (u ++ B0) z1 (noR (by omega)) z2 (Stb.refl _) (by simpa using h3) c03
            clear mR fin
            repeat' (first | (simp (disch := omega) only [push_cast, seval]) | refine iX ?_ ?_ <;> intros | refine aI (by omega) ?_ | refine dq ?_)
            exact hf
        · obtain ⟨Lz, z1, z2, hLz⟩ := noL (by omega)
          have h3 : Sw w2 B B' g c L (X ++ Lz ++ (u ++ (B0 ++ Y))) := by rw [hLz]; simpa using h2
          have c03 := c02
          by_cases rr : E < b
          · repeat' (first | (simp (disch := omega) only [push_cast, seval]) | refine iX ?_ ?_ <;> intros | refine aI (by omega) ?_ | refine dq ?_)
            refine (mR w2 Lz z2 h3 (by omega) rr).mono ?_
            rintro _ w4 ⟨Rz, y1, y2, y3, y4⟩
            have hf := fin w4 Lz Rz z1 y1 z2 y2 (by simpa using y3) (c03.trans y4)
            clear mR fin
            repeat' (first | (simp (disch := omega) only [push_cast, seval]) | refine iX ?_ ?_ <;> intros | refine aI (by omega) ?_ | refine dq ?_)
            exact hf
          · have hf := fin w2 Lz (u ++ B0) z1 (noR (by omega)) z2 (Stb.refl _) (by simpa using h3) c03
            clear mR fin
            repeat' (first | (simp (disch := omega) only [push_cast, seval]) | refine iX ?_ ?_ <;> intros | refine aI (by omega) ?_ | refine dq ?_)
            exact hf
      · by_cases qq : t < mid
        · have h2 := same (by left; exact List.length_eq_zero_iff.1 (by omega)) w1 h1
          have c02 := c01
          have ll : a < t := by omega
          repeat' (first | (simp (disch := omega) only [push_cast, seval, eE]) | refine iX ?_ ?_ <;> intros | refine aI (by omega) ?_ | refine dq ?_)
          refine (mL w1 h2 ll (by omega)).mono ?_
          rintro _ w3 ⟨Lz, z1, z2, h3, c3⟩
          have c03 := c02.trans c3
          have hf := fin w3 Lz (u ++ B0) z1 (noR (by omega)) z2 (Stb.refl _) (by simpa using h3) c03
          clear mR fin
          repeat' (first | (simp (disch := omega) only [push_cast, seval]) | refine iX ?_ ?_ <;> intros | refine aI (by omega) ?_ | refine dq ?_)
          exact hf
        · have h2 := same (by left; exact List.length_eq_zero_iff.1 (by omega)) w1 h1
          have c02 := c01
          obtain ⟨Lz, z1, z2, hLz⟩ := noL (by omega)
          have h3 : Sw w1 B B' g c L (X ++ Lz ++ (u ++ (B0 ++ Y))) := by rw [hLz]; simpa using h2
          have c03 := c02
          have hf := fin w1 Lz (u ++ B0) z1 (noR (by omega)) z2 (Stb.refl _) (by simpa using h3) c03
          clear mR fin
          repeat' (first | (simp (disch := omega) only [push_cast, seval, eE]) | refine iX ?_ ?_ <;> intros | refine aI (by omega) ?_ | refine dq ?_)
          exact hf
theorem symMerge_c : ∀ (D : Nat), SymOk D := by
  intro D
  induction D using Nat.strongRecOn with
  | ind D ih =>
  intro B B' g c L X U V Y a m b w hD h hX hU hV ham hmb sU sV
  by_cases hA : m = a + 1
  · obtain ⟨e, rfl⟩ : ∃ e, U = [e] := List.length_eq_one_iff.1 (by omega)
    exact mergeA_c B B' g c L X e V Y a m b w h hX hA hV hmb sV
  by_cases hB : b = m + 1
  · obtain ⟨e, rfl⟩ : ∃ e, V = [e] := List.length_eq_one_iff.1 (by omega)
    exact mergeB_c B B' g c L X U e Y a m b w h hX hU (by omega) hB sU
  by_cases hmm : (a + b) / 2 < m
  · exact symMergeLo_c D ih B B' g c L X U V Y a m b w hD h hX hU hV ham hmb sU sV hmm hA hB
  · exact symMergeHi_c D ih B B' g c L X U V Y a m b w hD h hX hU hV ham hmb sU sV hmm hA hB
end Go.Proofs.YtnofalhkapmcnaaGreat
end
