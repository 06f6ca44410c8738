/- The plain law of buckets: where they begin, the stretches that they cut. -/
import Derived.Test.YtdfdohajjgjbdaaBits
namespace Go.Bkt
theorem tdiv_b {t g M : Int} (hg : 0 < g) (ht : -M ≤ t ∧ t ≤ M) : t.tdiv g ≤ M ∧ -M ≤ t.tdiv g := by
  have h := Int.natAbs_tdiv_le_natAbs t g
  omega
def flr (t g : Int) : Int := t - t % g
/-- Go's remainder, and where a bucket begins. -/
theorem tm (t g : Int) (hg : 0 < g) : -g < t.tmod g ∧ t.tmod g < g ∧ t % g = (if t.tmod g < 0 then t.tmod g + g else t.tmod g) ∧ t.tdiv g * g = t - t.tmod g := by
  have h1 := Int.tmod_lt_of_pos t hg
  have h2 := Int.lt_tmod_of_pos t hg
  have h3 := Int.tdiv_mul_add_tmod t g
  have h4 : t % g = (t.tmod g) % g := by
    conv => lhs; rw [← h3]
    rw [Int.add_comm, Int.add_mul_emod_self_right]
  refine ⟨h2, h1, ?_, by omega⟩
  rw [h4]
  split
  · rename_i h
    have e : t.tmod g % g = (t.tmod g + g) % g := by rw [Int.add_emod_right]
    rw [e]; exact Int.emod_eq_of_lt (by omega) (by omega)
  · exact Int.emod_eq_of_lt (by omega) h1
theorem tmod_pos (t g : Int) (h : 0 ≤ t) : t.tmod g = t % g := Int.tmod_eq_emod_of_nonneg h
theorem tmod_emod (t g : Int) : t.tmod g % g = t % g := by
  have h3 := Int.tdiv_mul_add_tmod t g
  conv => rhs; rw [← h3]
  rw [Int.add_comm, Int.add_mul_emod_self_right]
theorem em (t g : Int) (hg : 0 < g) : 0 ≤ t % g ∧ t % g < g := ⟨Int.emod_nonneg _ (by omega), Int.emod_lt_of_pos _ hg⟩
theorem flr_le {t g : Int} (hg : 0 < g) : flr t g ≤ t ∧ t < flr t g + g := by
  have := em t g hg
  unfold flr; omega
theorem flr_mod {t g : Int} (hg : 0 < g) : flr t g % g = 0 := by
  unfold flr
  exact Int.emod_eq_zero_of_dvd (Int.dvd_self_sub_emod)
/-- What begins a bucket, is where its bucket begins. -/
theorem flr_self {t g : Int} (h : t % g = 0) : flr t g = t := by unfold flr; omega
theorem flr_shift (t g k : Int) : flr (t + k * g) g = flr t g + k * g := by
  unfold flr
  rw [Int.add_mul_emod_self_right]; omega
theorem mod_shift (t g k : Int) : (t + k * g) % g = t % g := Int.add_mul_emod_self_right _ _ _
/-- The next one, at it or behind. -/
def cel (t g : Int) : Int := t + (-t) % g
theorem cel_flr (t g : Int) : cel t g = -flr (-t) g := by unfold cel flr; omega
theorem neg_mod (t g : Int) (hg : 0 < g) : (-t) % g = if t % g = 0 then 0 else g - t % g := by
  have h := em t g hg
  have e : (-t) % g = (-(t % g)) % g := by
    rw [← Int.emod_emod_of_dvd (-(t % g)) (Int.dvd_refl g)]
    have : -t = -(t % g) + (-(t / g)) * g := by
      have := Int.emod_add_mul_ediv t g
      rw [Int.neg_mul, Int.mul_comm]; omega
    rw [this, Int.add_mul_emod_self_right, Int.emod_emod_of_dvd _ (Int.dvd_refl g)]
  rw [e]
  split
  · rename_i h0; rw [h0]; simp
  · rename_i h0
    have e2 : (-(t % g)) % g = (-(t % g) + g) % g := by rw [Int.add_emod_right]
    rw [e2, Int.emod_eq_of_lt (by omega) (by omega)]; omega
theorem cel_ref (t g : Int) (hg : 0 < g) : cel t g = if flr t g < t then flr t g + g else flr t g := by
  have h := em t g hg
  have hn := neg_mod t g hg
  unfold cel flr
  rw [hn]
  by_cases h0 : t % g = 0
  · rw [if_pos h0, if_neg (by omega)]; omega
  · rw [if_neg h0, if_pos (by omega)]; omega
theorem cel_mod {t g : Int} (hg : 0 < g) : cel t g % g = 0 := by
  rw [cel_ref t g hg]
  have := flr_mod (t := t) hg
  split
  · rw [Int.add_emod_right]; exact this
  · exact this
/-- Where a stretch ends. -/
def nxt (at_ to_ g : Int) : Int := min (flr at_ g + g) to_
/-- The first n stretches. -/
def cuts : Nat → Int → Int → Int → List (Int × Int)
  | 0, _, _, _ => []
  | n + 1, a, b, g => if a < b then (a, nxt a b g) :: cuts n (nxt a b g) b g else []
theorem nxt_gt {a b g : Int} (hg : 0 < g) (h : a < b) : a < nxt a b g ∧ nxt a b g ≤ b ∧ nxt a b g ≤ a + g := by
  have := flr_le (t := a) hg
  unfold nxt; omega
theorem cuts_none {n : Nat} {a b g : Int} (h : ¬ a < b) : cuts n a b g = [] := by
  cases n with
  | zero => rfl
  | succ n => rw [cuts, if_neg h]
theorem cuts_len (n : Nat) (a b g : Int) : (cuts n a b g).length ≤ n := by
  induction n generalizing a with
  | zero => simp [cuts]
  | succ n ih =>
    rw [cuts]; split
    · simp [ih]
    · simp
/-- Where the first n stretches end. -/
def endOf : Nat → Int → Int → Int → Int
  | 0, a, _, _ => a
  | n + 1, a, b, g => if a < b then endOf n (nxt a b g) b g else a
theorem cuts_snoc (n : Nat) (a b g : Int) : cuts (n + 1) a b g = cuts n a b g ++ (if endOf n a b g < b then [(endOf n a b g, nxt (endOf n a b g) b g)] else []) ∧ endOf (n + 1) a b g = (if endOf n a b g < b then nxt (endOf n a b g) b g else endOf n a b g) := by
  induction n generalizing a with
  | zero =>
    constructor
    · show (if a < b then (a, nxt a b g) :: cuts 0 (nxt a b g) b g else []) = [] ++ (if a < b then [(a, nxt a b g)] else [])
      split <;> rfl
    · rfl
  | succ n ih =>
    obtain ⟨h1, h2⟩ := ih (nxt a b g)
    by_cases h : a < b
    · constructor
      · rw [cuts, if_pos h, h1]
        conv => rhs; rw [cuts, if_pos h]
        have e : endOf (n + 1) a b g = endOf n (nxt a b g) b g := by rw [endOf, if_pos h]
        rw [e]; rfl
      · have e : endOf (n + 1) a b g = endOf n (nxt a b g) b g := by rw [endOf, if_pos h]
        have e2 : endOf (n + 1 + 1) a b g = endOf (n + 1) (nxt a b g) b g := by rw [endOf, if_pos h]
        rw [e2, h2, e]
    · have e : endOf (n + 1) a b g = a := by rw [endOf, if_neg h]
      have e2 : endOf (n + 1 + 1) a b g = a := by rw [endOf, if_neg h]
      rw [e, e2, cuts_none h, cuts_none h, if_neg h, if_neg h]; simp
/-- All that are told are as many as asked for, as long as there are any left. -/
theorem cuts_full {n : Nat} {a b g : Int} (h : endOf n a b g < b) : (cuts n a b g).length = n := by
  induction n generalizing a with
  | zero => rfl
  | succ n ih =>
    rw [endOf] at h
    rw [cuts]
    split at h
    · rename_i hab; rw [if_pos hab, List.length_cons, ih h]
    · rename_i hab; exact absurd h hab
theorem endOf_le {n : Nat} {a b g : Int} (hg : 0 < g) : a ≤ endOf n a b g ∧ (a ≤ b → endOf n a b g ≤ b) ∧ (¬ a < b → endOf n a b g = a) := by
  induction n generalizing a with
  | zero => simp [endOf]
  | succ n ih =>
    rw [endOf]
    split
    · rename_i h
      have h1 := nxt_gt hg h
      have h2 := ih (a := nxt a b g)
      exact ⟨by omega, fun _ => h2.2.1 h1.2.1, fun hn => absurd h hn⟩
    · exact ⟨Int.le_refl _, fun h => h, fun _ => rfl⟩
/-- A stretch lies in one bucket. -/
theorem nxt_same {a b g : Int} (hg : 0 < g) (h : a < b) : flr (nxt a b g - 1) g = flr a g := by
  have h1 := flr_le (t := a) hg
  have h2 := nxt_gt hg h
  have h3 : nxt a b g ≤ flr a g + g := by unfold nxt; omega
  have hm := flr_mod (t := a) hg
  have hd : flr a g = flr a g / g * g := by
    have := Int.emod_add_mul_ediv (flr a g) g
    rw [Int.mul_comm]; omega
  have e2 : (nxt a b g - 1) % g = nxt a b g - 1 - flr a g := by
    have e : nxt a b g - 1 = (nxt a b g - 1 - flr a g) + flr a g / g * g := by omega
    calc (nxt a b g - 1) % g = ((nxt a b g - 1 - flr a g) + flr a g / g * g) % g := congrArg (· % g) e
      _ = (nxt a b g - 1 - flr a g) % g := Int.add_mul_emod_self_right _ _ _
      _ = _ := Int.emod_eq_of_lt (by omega) (by omega)
  conv => lhs; unfold flr
  rw [e2]; omega
/-- Where a stretch ends, one begins, or all end. -/
theorem nxt_mod {a b g : Int} (hg : 0 < g) (h : nxt a b g < b) : nxt a b g % g = 0 := by
  have : nxt a b g = flr a g + g := by unfold nxt at h ⊢; omega
  rw [this, Int.add_emod_right]; exact flr_mod hg
/-- Between two multiples there are as many as it goes in. -/
theorem cuts_count (g : Int) (hg : 0 < g) (n : Nat) : ∀ (m : Nat) (a : Int), a % g = 0 → (cuts n a (a + g * (m : Int)) g).length = min n m := by
  induction n with
  | zero => intro m a _; simp [cuts]
  | succ n ih =>
    intro m a ha
    cases m with
    | zero => rw [cuts, if_neg (by simp)]; simp
    | succ m =>
      have hp : 0 ≤ g * (m : Int) := Int.mul_nonneg (by omega) (by omega)
      have e : g * ((m + 1 : Nat) : Int) = g * (m : Int) + g := by rw [Int.natCast_add, Int.mul_add]; simp
      have hx : nxt a (a + g * ((m + 1 : Nat) : Int)) g = a + g := by unfold nxt; rw [flr_self ha, e]; omega
      rw [cuts, if_pos (by rw [e]; omega), hx, List.length_cons]
      have := ih m (a + g) (by rw [Int.add_emod_right]; exact ha)
      have e3 : a + g * ((m + 1 : Nat) : Int) = a + g + g * (m : Int) := by rw [e]; omega
      rw [e3, this]; omega
/-- Buckets in buckets. -/
theorem flr_within {a g m : Int} (hg : 0 < g) (hm : 0 < m) (ha : a % g = 0) : flr (a + g - 1) (g * m) = flr a (g * m) := by
  have key : ∀ t, t - t % (g * m) = g * m * (t / g / m) := by
    intro t
    have h1 := Int.emod_add_mul_ediv t (g * m)
    rw [Int.ediv_ediv_of_nonneg (by omega)]
    omega
  unfold flr
  rw [key, key]
  have : (a + g - 1) / g = a / g := by
    have hd : a = a / g * g := by
      have := Int.emod_add_mul_ediv a g
      rw [Int.mul_comm]; omega
    have e : a + g - 1 = (g - 1) + a / g * g := by omega
    rw [e, Int.add_mul_ediv_right _ _ (by omega), Int.ediv_eq_zero_of_lt (by omega) (by omega)]; omega
  rw [this]
theorem cuts_at (b g : Int) : ∀ (n : Nat) (a : Int) (i : Nat), i < (cuts n a b g).length → (cuts n a b g)[i]? = some (endOf i a b g, nxt (endOf i a b g) b g) ∧ endOf i a b g < b ∧ endOf (i + 1) a b g = nxt (endOf i a b g) b g := by
  intro n
  induction n with
  | zero => intro a i h; simp [cuts] at h
  | succ n ih =>
    intro a i h
    by_cases hab : a < b
    · rw [cuts, if_pos hab] at h ⊢
      cases i with
      | zero => exact ⟨rfl, hab, by show (if a < b then endOf 0 (nxt a b g) b g else a) = nxt a b g; rw [if_pos hab]; rfl⟩
      | succ i =>
        have e : endOf (i + 1) a b g = endOf i (nxt a b g) b g := by rw [endOf, if_pos hab]
        have e2 : endOf (i + 1 + 1) a b g = endOf (i + 1) (nxt a b g) b g := by rw [endOf, if_pos hab]
        rw [e, e2, List.getElem?_cons_succ]
        exact ih (nxt a b g) i (by simpa using h)
    · rw [cuts_none hab] at h; simp at h
theorem endOf_mod {a b g : Int} (hg : 0 < g) (i : Nat) (hi : 0 < i) (h : endOf i a b g < b) : endOf i a b g % g = 0 := by
  obtain ⟨j, rfl⟩ : ∃ j, i = j + 1 := ⟨i - 1, by omega⟩
  have e := (cuts_snoc j a b g).2
  rw [e] at h ⊢
  split at h
  · rename_i h1; rw [if_pos h1]; exact nxt_mod hg h
  · rename_i h1; exact absurd h h1
theorem cuts_stop (b g : Int) : ∀ (n : Nat) (a : Int), (cuts n a b g).length < n → ¬ endOf (cuts n a b g).length a b g < b := by
  intro n
  induction n with
  | zero => intro a h; omega
  | succ n ih =>
    intro a h
    by_cases hab : a < b
    · rw [cuts, if_pos hab] at h ⊢
      rw [List.length_cons, endOf, if_pos hab]
      exact ih (nxt a b g) (by simpa using h)
    · rw [cuts_none hab]; simpa [endOf] using hab
theorem cuts_more {n : Nat} {a b g : Int} (h : ¬ endOf n a b g < b) (m : Nat) : cuts (n + m) a b g = cuts n a b g ∧ endOf (n + m) a b g = endOf n a b g := by
  induction m with
  | zero => exact ⟨rfl, rfl⟩
  | succ m ih =>
    obtain ⟨h1, h2⟩ := ih
    obtain ⟨s1, s2⟩ := cuts_snoc (n + m) a b g
    rw [h2, if_neg h] at s1 s2
    rw [← Nat.add_assoc, s1, s2, h1]
    exact ⟨by simp, by first | trivial | rfl⟩
end Go.Bkt
