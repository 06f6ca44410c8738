/- The plain law of sets of numbers, as stretches: what they have, how many, and that they are one if they have the same. -/
namespace Go.Run
abbrev S := List (Int × Int)
/-- Right, all behind 'last'. -/
def Rt (last : Int) : S → Prop
  | [] => True
  | r :: s => last < r.1 ∧ r.1 < r.2 ∧ r.2 ≤ 65536 ∧ Rt r.2 s
instance decRt : ∀ (last : Int) (s : S), Decidable (Rt last s)
  | _, [] => isTrue trivial
  | last, r :: s => by
    have := decRt r.2 s
    unfold Rt; infer_instance
def has : S → Int → Bool
  | [], _ => false
  | r :: s, x => (decide (r.1 ≤ x) && decide (x < r.2)) || has s x
theorem has_nil (x : Int) : has [] x = false := rfl
theorem has_cons (r : Int × Int) (s : S) (x : Int) : has (r :: s) x = true ↔ (r.1 ≤ x ∧ x < r.2) ∨ has s x = true := by simp [has]
theorem has_append (s t : S) (x : Int) : has (s ++ t) x = (has s x || has t x) := by
  induction s with
  | nil => rfl
  | cons r s ih => simp [has, ih, Bool.or_assoc]
theorem has_gt {last x : Int} {s : S} (h : Rt last s) (hx : has s x = true) : last < x ∧ x < 65536 := by
  induction s generalizing last with
  | nil => simp [has] at hx
  | cons r s ih =>
    obtain ⟨h1, h2, h3, h4⟩ := h
    rcases (has_cons r s x).1 hx with h5 | h5
    · omega
    · have := ih h4 h5; omega
theorem rt_mono {last last' : Int} {s : S} (h : Rt last s) (hl : last' ≤ last) : Rt last' s := by
  cases s with
  | nil => trivial
  | cons r s => exact ⟨by have := h.1; omega, h.2⟩
theorem bool_eq {a b : Bool} (h : a = true ↔ b = true) : a = b := Bool.eq_iff_iff.2 h
theorem ext {la lb : Int} {a b : S} (ha : Rt la a) (hb : Rt lb b) (h : ∀ x, has a x = has b x) : a = b := by
  induction a generalizing la lb b with
  | nil =>
    cases b with
    | nil => rfl
    | cons q b =>
      have h1 := h q.1
      have h2 : has (q :: b) q.1 = true := (has_cons _ _ _).2 (.inl ⟨Int.le_refl _, hb.2.1⟩)
      rw [h2] at h1; simp [has] at h1
  | cons r a ih =>
    cases b with
    | nil =>
      have h1 := h r.1
      have h2 : has (r :: a) r.1 = true := (has_cons _ _ _).2 (.inl ⟨Int.le_refl _, ha.2.1⟩)
      rw [h2] at h1; simp [has] at h1
    | cons q b =>
      obtain ⟨a1, a2, a3, a4⟩ := ha
      obtain ⟨b1, b2, b3, b4⟩ := hb
      have e1 : r.1 = q.1 := by
        have h1 : has (q :: b) r.1 = true := by rw [← h]; exact (has_cons _ _ _).2 (.inl ⟨Int.le_refl _, a2⟩)
        have h2 : has (r :: a) q.1 = true := by rw [h]; exact (has_cons _ _ _).2 (.inl ⟨Int.le_refl _, b2⟩)
        have h3 : q.1 ≤ r.1 := by
          rcases (has_cons _ _ _).1 h1 with h3 | h3
          · exact h3.1
          · have := has_gt b4 h3; omega
        have h4 : r.1 ≤ q.1 := by
          rcases (has_cons _ _ _).1 h2 with h4 | h4
          · exact h4.1
          · have := has_gt a4 h4; omega
        omega
      have e2 : r.2 = q.2 := by
        rcases Int.lt_trichotomy r.2 q.2 with h3 | h3 | h3
        · have h1 : has (r :: a) r.2 = true := by rw [h]; exact (has_cons _ _ _).2 (.inl ⟨by omega, h3⟩)
          rcases (has_cons _ _ _).1 h1 with h4 | h4
          · omega
          · have := has_gt a4 h4; omega
        · exact h3
        · have h1 : has (q :: b) q.2 = true := by rw [← h]; exact (has_cons _ _ _).2 (.inl ⟨by omega, h3⟩)
          rcases (has_cons _ _ _).1 h1 with h4 | h4
          · omega
          · have := has_gt b4 h4; omega
      have e3 : r = q := Prod.ext e1 e2
      subst e3
      congr 1
      refine ih a4 b4 fun x => ?_
      have h1 := h x
      by_cases hx : r.2 < x
      · have h2 : (decide (r.1 ≤ x) && decide (x < r.2)) = false := by simp; omega
        simp only [has, h2, Bool.false_or] at h1; exact h1
      · have h2 : has a x = false := by
          cases he : has a x with
          | false => rfl
          | true => have := has_gt a4 he; omega
        have h3 : has b x = false := by
          cases he : has b x with
          | false => rfl
          | true => have := has_gt b4 he; omega
        rw [h2, h3]
/-! ### put behind one another -/
def top (last : Int) : S → Int
  | [] => last
  | r :: s => top r.2 s
theorem rt_snoc (last : Int) (s : S) (r : Int × Int) : Rt last (s ++ [r]) ↔ Rt last s ∧ top last s < r.1 ∧ r.1 < r.2 ∧ r.2 ≤ 65536 := by
  induction s generalizing last with
  | nil => simp [Rt, top]
  | cons q s ih => simp only [List.cons_append, Rt, top, ih]; constructor <;> (rintro ⟨h1, h2⟩; simp_all)
theorem top_snoc (last : Int) (s : S) (r : Int × Int) : top last (s ++ [r]) = r.2 := by
  induction s generalizing last with
  | nil => rfl
  | cons q s ih => exact ih _
theorem has_one (r : Int × Int) (x : Int) : has [r] x = (decide (r.1 ≤ x) && decide (x < r.2)) := by simp [has]
theorem nil_or_snoc (s : S) : s = [] ∨ ∃ t q, s = t ++ [q] := by
  cases s with
  | nil => exact .inl rfl
  | cons r s => exact .inr ⟨(r :: s).dropLast, (r :: s).getLast (by simp), (List.dropLast_concat_getLast (by simp)).symm⟩
/-- A run more, that begins no earlier than the last one ends. -/
def wth (s : S) (r : Int × Int) : S := match s.getLast? with
  | some q => if q.2 = r.1 then s.dropLast ++ [(q.1, r.2)] else s ++ [r]
  | none => [r]
theorem wth_nil (r : Int × Int) : wth [] r = [r] := rfl
theorem wth_snoc (t : S) (q r : Int × Int) : wth (t ++ [q]) r = if q.2 = r.1 then t ++ [(q.1, r.2)] else (t ++ [q]) ++ [r] := by simp [wth]
theorem wth_spec {s : S} {r : Int × Int} (h : Rt (-1) s) (ht : top (-1) s ≤ r.1) (h0 : 0 ≤ r.1) (h1 : r.1 < r.2) (h2 : r.2 ≤ 65536) :
    Rt (-1) (wth s r) ∧ top (-1) (wth s r) = r.2 ∧ ∀ x, has (wth s r) x = (has s x || (decide (r.1 ≤ x) && decide (x < r.2))) := by
  rcases nil_or_snoc s with rfl | ⟨t, q, rfl⟩
  · rw [wth_nil]
    exact ⟨⟨by omega, h1, h2, trivial⟩, rfl, fun x => by simp [has]⟩
  · rw [top_snoc] at ht
    rw [wth_snoc]
    have hq := (rt_snoc _ _ _).1 h
    split
    · rename_i e
      refine ⟨(rt_snoc _ _ _).2 ⟨hq.1, hq.2.1, by dsimp only; omega, h2⟩, top_snoc _ _ _, fun x => ?_⟩
      rw [has_append, has_append, has_one, has_one, Bool.or_assoc]
      congr 1
      apply bool_eq
      simp; omega
    · refine ⟨(rt_snoc _ _ _).2 ⟨h, by rw [top_snoc]; omega, h1, h2⟩, top_snoc _ _ _, fun x => ?_⟩
      rw [has_append, has_one]
theorem wth_len (s : S) (r : Int × Int) : (wth s r).length ≤ s.length + 1 := by
  rcases nil_or_snoc s with rfl | ⟨t, q, rfl⟩
  · simp [wth_nil]
  · rw [wth_snoc]; split <;> simp
theorem rt_len {last : Int} {s : S} (h : Rt last s) (hl : -1 ≤ last) : last + (2 * s.length : Nat) ≤ 65536 ∨ s = [] := by
  induction s generalizing last with
  | nil => exact .inr rfl
  | cons r s ih =>
    obtain ⟨h1, h2, h3, h4⟩ := h
    rcases ih h4 (by omega) with h5 | rfl
    · left; rw [List.length_cons]; omega
    · left; simp; omega
theorem right_len {s : S} (h : Rt (-1) s) : s.length ≤ 32768 := by
  rcases rt_len h (by omega) with h1 | rfl
  · omega
  · simp
theorem rt_append {last : Int} {s t : S} (h : Rt last (s ++ t)) : Rt last s ∧ Rt (top last s) t := by
  induction s generalizing last with
  | nil => exact ⟨trivial, h⟩
  | cons r s ih => exact ⟨⟨h.1, h.2.1, h.2.2.1, (ih h.2.2.2).1⟩, (ih h.2.2.2).2⟩
theorem rt_take {last : Int} {s : S} (h : Rt last s) (i : Nat) : Rt last (s.take i) := by
  rw [← List.take_append_drop i s] at h; exact (rt_append h).1
theorem rt_get {last : Int} {s : S} (h : Rt last s) (i : Nat) (hi : i < s.length) : last < s[i].1 ∧ s[i].1 < s[i].2 ∧ s[i].2 ≤ 65536 := by
  induction s generalizing last i with
  | nil => simp at hi
  | cons r s ih =>
    obtain ⟨h1, h2, h3, h4⟩ := h
    cases i with
    | zero => exact ⟨h1, h2, h3⟩
    | succ i => have := ih h4 i (by simpa using hi); simp only [List.getElem_cons_succ]; omega
/-- Where the first i end. -/
def lastOf (s : S) (i : Nat) : Int := top (-1) (s.take i)
theorem take_succ {s : S} {i : Nat} (hi : i < s.length) : s.take (i + 1) = s.take i ++ [s[i]] := by rw [List.take_add_one, List.getElem?_eq_getElem hi]; rfl
theorem lastOf_zero (s : S) : lastOf s 0 = -1 := by simp [lastOf, top]
theorem lastOf_succ {s : S} {i : Nat} (hi : i < s.length) : lastOf s (i + 1) = s[i].2 := by
  unfold lastOf
  rw [take_succ hi, top_snoc]
theorem top_ge {last : Int} {s : S} (h : Rt last s) : last ≤ top last s := by
  induction s generalizing last with
  | nil => exact Int.le_refl _
  | cons r s ih =>
    obtain ⟨h1, h2, h3, h4⟩ := h
    have := ih h4
    simp only [top]; omega
theorem rt_step {s : S} {i : Nat} (hi : i < s.length) : Rt (-1) (s.take (i + 1)) ↔ Rt (-1) (s.take i) ∧ lastOf s i < s[i].1 ∧ s[i].1 < s[i].2 ∧ s[i].2 ≤ 65536 := by rw [take_succ hi, rt_snoc]; rfl
/-! ### how many -/
def cnt : S → Int
  | [] => 0
  | r :: s => (r.2 - r.1) + cnt s
theorem cnt_append (s t : S) : cnt (s ++ t) = cnt s + cnt t := by
  induction s with
  | nil => simp [cnt]
  | cons r s ih => simp only [List.cons_append, cnt, ih]; omega
theorem cnt_snoc (s : S) (r : Int × Int) : cnt (s ++ [r]) = cnt s + (r.2 - r.1) := by rw [cnt_append]; simp [cnt]
def rk : S → Int → Int
  | [], _ => 0
  | r :: s, x => (if r.1 < x then min x r.2 - r.1 else 0) + rk s x
theorem rk_append (s t : S) (x : Int) : rk (s ++ t) x = rk s x + rk t x := by
  induction s with
  | nil => simp [rk]
  | cons r s ih => simp only [List.cons_append, rk, ih]; omega
theorem rk_snoc (s : S) (r : Int × Int) (x : Int) : rk (s ++ [r]) x = rk s x + (if r.1 < x then min x r.2 - r.1 else 0) := by rw [rk_append]; simp [rk]
theorem cnt_in {last : Int} {s : S} (h : Rt last s) (hl : -1 ≤ last) : 0 ≤ cnt s ∧ cnt s ≤ 65536 - last - 1 ∨ s = [] := by
  induction s generalizing last with
  | nil => exact .inr rfl
  | cons r s ih =>
    obtain ⟨h1, h2, h3, h4⟩ := h
    rcases ih h4 (by omega) with h5 | rfl
    · left; simp only [cnt]; omega
    · left; simp [cnt]; omega
theorem cnt_le {s : S} (h : Rt (-1) s) : 0 ≤ cnt s ∧ cnt s ≤ 65536 := by
  rcases cnt_in h (by omega) with h1 | rfl
  · omega
  · simp [cnt]
theorem rk_zero {last x : Int} {s : S} (h : Rt last s) (hx : x ≤ last) : rk s x = 0 := by
  induction s generalizing last with
  | nil => rfl
  | cons r s ih =>
    obtain ⟨h1, h2, h3, h4⟩ := h
    simp only [rk]
    rw [if_neg (by omega), ih h4 (by omega)]; rfl
theorem rk_in {last : Int} {s : S} (h : Rt last s) (x : Int) : 0 ≤ rk s x ∧ rk s x ≤ cnt s := by
  induction s generalizing last with
  | nil => simp [rk, cnt]
  | cons r s ih =>
    obtain ⟨h1, h2, h3, h4⟩ := h
    have := ih h4
    simp only [rk, cnt]
    split <;> omega
theorem rk_all {last x : Int} {s : S} (h : Rt last s) (hx : 65536 ≤ x) : rk s x = cnt s := by
  induction s generalizing last with
  | nil => rfl
  | cons r s ih =>
    obtain ⟨h1, h2, h3, h4⟩ := h
    simp only [rk, cnt]
    rw [if_pos (by omega), ih h4]; omega
theorem has_false {last x : Int} {s : S} (h : Rt last s) (hx : x ≤ last ∨ 65536 ≤ x) : has s x = false := by
  cases he : has s x with
  | false => rfl
  | true => have := has_gt h he; omega
theorem rk_succ {last x : Int} {s : S} (h : Rt last s) : rk s (x + 1) = rk s x + (if has s x = true then 1 else 0) := by
  induction s generalizing last with
  | nil => simp [rk, has]
  | cons r s ih =>
    obtain ⟨h1, h2, h3, h4⟩ := h
    have ih := ih h4
    simp only [rk, has_cons]
    rw [ih]
    by_cases hx : has s x = true
    · have := has_gt h4 hx
      have e : (r.1 ≤ x ∧ x < r.2) ∨ has s x = true := .inr hx
      rw [if_pos hx, if_pos e, if_pos (show r.1 < x + 1 by omega), if_pos (show r.1 < x by omega)]; omega
    · simp only [hx, or_false, Bool.false_eq_true, if_false]
      split <;> split <;> split <;> omega
/-- How many below n are such. -/
def nb (p : Int → Bool) : Nat → Int
  | 0 => 0
  | n + 1 => nb p n + if p n = true then 1 else 0
theorem nb_congr {p q : Int → Bool} : ∀ {n : Nat}, (∀ i : Int, 0 ≤ i → i < n → p i = q i) → nb p n = nb q n
  | 0, _ => rfl
  | n + 1, h => by
    unfold nb
    rw [nb_congr (n := n) (fun i h1 h2 => h i h1 (by omega)), h n (by omega) (by omega)]
theorem nb_ie (p q : Int → Bool) (n : Nat) : nb (fun x => p x && q x) n + nb (fun x => p x || q x) n = nb p n + nb q n := by
  induction n with
  | zero => rfl
  | succ n ih =>
    simp only [nb]
    rcases Bool.eq_false_or_eq_true (p n) with hp | hp <;> rcases Bool.eq_false_or_eq_true (q n) with hq | hq <;> simp [hp, hq] <;> omega
theorem rk_low {last x : Int} {s : S} (h : Rt last s) (hl : -1 ≤ last) (hx : x ≤ 0) : rk s x = 0 := by
  induction s generalizing last with
  | nil => rfl
  | cons r s ih =>
    obtain ⟨h1, h2, h3, h4⟩ := h
    simp only [rk]
    rw [if_neg (by omega), ih h4 (by omega)]; rfl
theorem rk_nb {last : Int} {s : S} (h : Rt last s) (hl : -1 ≤ last) (n : Nat) : rk s n = nb (has s) n := by
  induction n with
  | zero => exact rk_low h hl (by omega)
  | succ n ih =>
    have := rk_succ (x := (n : Int)) h
    unfold nb
    rw [← ih, ← this]; rfl
theorem cnt_nb {s : S} (h : Rt (-1) s) : cnt s = nb (has s) 65536 := by
  rw [← rk_nb h (by omega), ← rk_all h (x := ((65536 : Nat) : Int)) (by omega)]
/-- As many are in both, and in one at least, as in the two. -/
theorem cnt_both {s t u v : S} (hs : Rt (-1) s) (ht : Rt (-1) t) (hu : Rt (-1) u) (hv : Rt (-1) v) (h1 : ∀ x, has u x = (has s x && has t x)) (h2 : ∀ x, has v x = (has s x || has t x)) : cnt u + cnt v = cnt s + cnt t := by
  rw [cnt_nb hs, cnt_nb ht, cnt_nb hu, cnt_nb hv, ← nb_ie (has s) (has t)]
  rw [nb_congr (p := has u) fun i _ _ => h1 i, nb_congr (p := has v) fun i _ _ => h2 i]
/-! ### all below a number -/
def upto (n : Int) : S := if n ≤ 0 then [] else [(0, min n 65536)]
theorem upto_rt (n : Int) : Rt (-1) (upto n) := by
  unfold upto; split
  · trivial
  · refine ⟨by dsimp only; omega, by dsimp only; omega, by dsimp only; omega, trivial⟩
theorem upto_has (n x : Int) : has (upto n) x = (decide (0 ≤ x) && decide (x < n) && decide (x < 65536)) := by
  unfold upto
  apply bool_eq
  split <;> simp [has] <;> omega
theorem upto_cnt (n : Int) : cnt (upto n) = min (max n 0) 65536 := by
  unfold upto; split <;> simp [cnt] <;> omega
/-- The rank is the count of what lies below. -/
theorem rk_below {s t : S} {x : Int} (hs : Rt (-1) s) (ht : Rt (-1) t) (h : ∀ y, has t y = (has s y && has (upto x) y)) : rk s x = cnt t := by
  by_cases hx : x ≤ 0
  · have : t = [] := ext (lb := -1) ht trivial fun y => by
      rw [h y, upto_has]
      have : (decide (0 ≤ y) && decide (y < x) && decide (y < 65536)) = false := Bool.eq_false_iff.2 (by simp; omega)
      rw [this]; simp [has]
    subst this
    rw [rk_low hs (by omega) hx]; rfl
  · rw [cnt_nb ht, nb_congr fun i _ _ => h i]
    by_cases hx2 : x ≤ 65536
    · have e : x = ((x.toNat : Nat) : Int) := by omega
      rw [e, rk_nb hs (by omega)]
      have hsp : ∀ (m n : Nat), m ≤ n → nb (has s) m = nb (fun y => has s y && (decide (0 ≤ y) && decide (y < (m : Int)))) n := by
        intro m n hmn
        induction n with
        | zero => obtain rfl : m = 0 := by omega
                  rfl
        | succ n ih =>
          by_cases hm : m = n + 1
          · subst hm
            refine nb_congr fun i h1 h2 => ?_
            have : (decide (0 ≤ i) && decide (i < ((n + 1 : Nat) : Int))) = true := by simp; omega
            rw [this, Bool.and_true]
          · rw [ih (by omega)]
            conv => rhs; unfold nb
            have : (has s (n : Int) && (decide (0 ≤ (n : Int)) && decide ((n : Int) < (m : Int)))) = false := Bool.eq_false_iff.2 (by simp; omega)
            rw [this]; simp
      rw [hsp x.toNat 65536 (by omega)]
      refine nb_congr fun i h1 h2 => ?_
      rw [upto_has]
      congr 1
      apply bool_eq; simp; omega
    · rw [rk_all hs (by omega), cnt_nb hs]
      refine nb_congr fun i h1 h2 => ?_
      rw [upto_has]
      have : (decide (0 ≤ i) && decide (i < x) && decide (i < 65536)) = true := by simp; omega
      rw [this, Bool.and_true]
/-! ### the k-th -/
def sel : S → Int → Option Int
  | [], _ => none
  | r :: s, k => if k < r.2 - r.1 then some (r.1 + k) else sel s (k - (r.2 - r.1))
def slc (s : S) (k : Int) : Option Int := if k < 0 then none else sel s k
theorem sel_spec {last : Int} {s : S} (h : Rt last s) {k : Int} (hk : 0 ≤ k) : (k < cnt s ∧ ∃ y, sel s k = some y ∧ has s y = true ∧ rk s y = k) ∨ (cnt s ≤ k ∧ sel s k = none) := by
  induction s generalizing last k with
  | nil => right; exact ⟨by simpa [cnt] using hk, rfl⟩
  | cons r s ih =>
    obtain ⟨h1, h2, h3, h4⟩ := h
    have hc : 0 ≤ cnt s := by have := rk_in h4 0; omega
    simp only [cnt, sel]
    by_cases hlt : k < r.2 - r.1
    · left
      rw [if_pos hlt]
      refine ⟨by omega, _, rfl, (has_cons _ _ _).2 (.inl ⟨by omega, by omega⟩), ?_⟩
      simp only [rk]
      rw [rk_zero h4 (by omega)]
      split <;> omega
    · rw [if_neg hlt]
      rcases ih h4 (k := k - (r.2 - r.1)) (by omega) with ⟨g1, y, g2, g3, g4⟩ | ⟨g1, g2⟩
      · left
        refine ⟨by omega, y, g2, (has_cons _ _ _).2 (.inr g3), ?_⟩
        have := has_gt h4 g3
        simp only [rk]
        rw [if_pos (by omega), g4]; omega
      · right; exact ⟨by omega, g2⟩
theorem slc_spec {s : S} (h : Rt (-1) s) (k : Int) : (0 ≤ k ∧ k < cnt s ∧ ∃ y, slc s k = some y ∧ has s y = true ∧ rk s y = k) ∨ (¬ (0 ≤ k ∧ k < cnt s) ∧ slc s k = none) := by
  unfold slc
  by_cases hk : k < 0
  · rw [if_pos hk]; exact .inr ⟨by omega, rfl⟩
  · rw [if_neg hk]
    rcases sel_spec h (k := k) (by omega) with h1 | h1
    · exact .inl ⟨by omega, h1⟩
    · exact .inr ⟨by omega, h1.2⟩
/-! ### the first run that ends above a number -/
def bh : S → Int → Nat
  | [], _ => 0
  | r :: s, x => if x < r.2 then 0 else bh s x + 1
theorem bh_le (s : S) (x : Int) : bh s x ≤ s.length := by
  induction s with
  | nil => simp [bh]
  | cons r s ih => unfold bh; split <;> simp [ih]
theorem bh_lt (s : S) (x : Int) : ∀ i (hi : i < s.length), i < bh s x → s[i].2 ≤ x := by
  induction s with
  | nil => intro i hi; simp at hi
  | cons r s ih =>
    intro i hi hb
    unfold bh at hb
    split at hb
    · omega
    · cases i with
      | zero => simp only [List.getElem_cons_zero]; omega
      | succ i => exact ih i (by simpa using hi) (by omega)
theorem rt_mem {last : Int} {s : S} (h : Rt last s) : ∀ r ∈ s, last < r.1 ∧ r.1 < r.2 ∧ r.2 ≤ 65536 := by
  intro r hr
  obtain ⟨i, hi, rfl⟩ := List.getElem_of_mem hr
  exact rt_get h i hi
theorem bh_ge {last : Int} {s : S} (h : Rt last s) (x : Int) : ∀ i (hi : i < s.length), bh s x ≤ i → x < s[i].2 := by
  induction s generalizing last with
  | nil => intro i hi; simp at hi
  | cons r s ih =>
    intro i hi hb
    obtain ⟨h1, h2, h3, h4⟩ := h
    unfold bh at hb
    split at hb
    · cases i with
      | zero => assumption
      | succ i =>
        have := rt_get h4 i (by simpa using hi)
        simp only [List.getElem_cons_succ]; omega
    · cases i with
      | zero => omega
      | succ i => exact ih h4 i (by simpa using hi) (by omega)
theorem bh_one {s : S} {x : Int} {i : Nat} (hi : i ≤ s.length) {last : Int} (h : Rt last s) (h1 : 0 < i → ∀ (hj : i - 1 < s.length), s[i - 1].2 ≤ x) (h2 : ∀ (hj : i < s.length), x < s[i].2) : i = bh s x := by
  have hb := bh_le s x
  rcases Nat.lt_trichotomy i (bh s x) with h3 | h3 | h3
  · have := bh_lt s x i (by omega) h3
    have := h2 (by omega)
    omega
  · exact h3
  · have := bh_ge h x (i - 1) (by omega) (by omega)
    have := h1 (by omega) (by omega)
    omega
theorem bh_has {last : Int} {s : S} (h : Rt last s) (x : Int) : has s x = true ↔ ∃ hi : bh s x < s.length, s[bh s x].1 ≤ x := by
  induction s generalizing last with
  | nil => simp [has]
  | cons r s ih =>
    obtain ⟨h1, h2, h3, h4⟩ := h
    rw [has_cons]
    by_cases hx : x < r.2
    · have hf : has s x = false := has_false h4 (by omega)
      have e : bh (r :: s) x = 0 := by unfold bh; rw [if_pos hx]
      simp [e, hf, hx]
    · have e : bh (r :: s) x = bh s x + 1 := by
        show (if x < r.2 then 0 else bh s x + 1) = _
        rw [if_neg hx]
      simp only [e, List.length_cons, List.getElem_cons_succ, Nat.add_lt_add_iff_right, ← ih h4]
      constructor
      · rintro (h5 | h5)
        · omega
        · exact h5
      · exact .inr
theorem bh_rk {last : Int} {s : S} (h : Rt last s) (x : Int) : rk s x = cnt (s.take (bh s x)) + (if h : bh s x < s.length then (if s[bh s x].1 < x then x - s[bh s x].1 else 0) else 0) := by
  induction s generalizing last with
  | nil => simp [rk, cnt, bh]
  | cons r s ih =>
    obtain ⟨h1, h2, h3, h4⟩ := h
    by_cases hx : x < r.2
    · have e : bh (r :: s) x = 0 := by unfold bh; rw [if_pos hx]
      simp only [rk, rk_zero h4 (x := x) (by omega), e, List.take_zero, cnt, List.length_cons, List.getElem_cons_zero]
      rw [dif_pos (by omega)]
      split <;> omega
    · have e : bh (r :: s) x = bh s x + 1 := by
        show (if x < r.2 then 0 else bh s x + 1) = _
        rw [if_neg hx]
      simp only [rk, e, List.take_succ_cons, cnt, List.length_cons, List.getElem_cons_succ, Nat.add_lt_add_iff_right]
      rw [ih h4, if_pos (by omega)]; omega
/-! ### lists -/
def itv (a : Int) (n : Nat) : List Int := (List.range n).map fun (i : Nat) => a + (i : Int)
theorem itv_succ (a : Int) (n : Nat) : itv a (n + 1) = itv a n ++ [a + n] := by simp [itv, List.range_succ]
theorem mem_itv (a : Int) (n : Nat) (x : Int) : x ∈ itv a n ↔ a ≤ x ∧ x < a + n := by
  unfold itv
  rw [List.mem_map]
  constructor
  · rintro ⟨i, hi, rfl⟩
    have := List.mem_range.1 hi; omega
  · intro h
    exact ⟨(x - a).toNat, List.mem_range.2 (by omega), by omega⟩
theorem itv_len (a : Int) (n : Nat) : (itv a n).length = n := by simp [itv]
def Asc (l : List Int) : Prop := l.Pairwise (· < ·)
theorem asc_nil : Asc [] := List.Pairwise.nil
theorem asc_snoc (l : List Int) (x : Int) : Asc (l ++ [x]) ↔ Asc l ∧ ∀ y ∈ l, y < x := by
  unfold Asc
  rw [List.pairwise_append]
  simp
theorem asc_itv (a : Int) (n : Nat) : Asc (itv a n) := by
  induction n with
  | zero => exact asc_nil
  | succ n ih =>
    rw [itv_succ, asc_snoc]
    exact ⟨ih, fun y hy => by have := (mem_itv _ _ _).1 hy; omega⟩
def elts : S → List Int
  | [] => []
  | r :: s => itv r.1 (r.2 - r.1).toNat ++ elts s
theorem elts_append (s t : S) : elts (s ++ t) = elts s ++ elts t := by
  induction s with
  | nil => rfl
  | cons r s ih => simp [elts, ih]
theorem elts_snoc (s : S) (r : Int × Int) : elts (s ++ [r]) = elts s ++ itv r.1 (r.2 - r.1).toNat := by rw [elts_append]; simp [elts]
theorem mem_elts (s : S) (x : Int) : x ∈ elts s ↔ has s x = true := by
  induction s with
  | nil => simp [elts, has]
  | cons r s ih =>
    rw [elts, List.mem_append, ih, has_cons, mem_itv]
    constructor
    · rintro (h | h)
      · exact .inl (by omega)
      · exact .inr h
    · rintro (h | h)
      · exact .inl (by omega)
      · exact .inr h
theorem asc_elts {last : Int} {s : S} (h : Rt last s) : Asc (elts s) := by
  induction s generalizing last with
  | nil => exact asc_nil
  | cons r s ih =>
    obtain ⟨h1, h2, h3, h4⟩ := h
    unfold elts Asc
    rw [List.pairwise_append]
    refine ⟨asc_itv _ _, ih h4, fun a ha b hb => ?_⟩
    have := (mem_itv _ _ _).1 ha
    have := has_gt h4 ((mem_elts _ _).1 hb)
    omega
theorem elts_len {last : Int} {s : S} (h : Rt last s) : ((elts s).length : Int) = cnt s := by
  induction s generalizing last with
  | nil => rfl
  | cons r s ih =>
    obtain ⟨h1, h2, h3, h4⟩ := h
    rw [elts, List.length_append, itv_len, cnt, ← ih h4]; omega
theorem asc_ext {l m : List Int} (hl : Asc l) (hm : Asc m) (h : ∀ x, x ∈ l ↔ x ∈ m) : l = m := by
  induction l generalizing m with
  | nil =>
    cases m with
    | nil => rfl
    | cons y m => have := (h y).2 (by simp); simp at this
  | cons x l ih =>
    cases m with
    | nil => have := (h x).1 (by simp); simp at this
    | cons y m =>
      unfold Asc at hl hm
      rw [List.pairwise_cons] at hl hm
      have e : x = y := by
        have h1 : x ∈ y :: m := (h x).1 (by simp)
        have h2 : y ∈ x :: l := (h y).2 (by simp)
        rcases List.mem_cons.1 h1 with h1 | h1
        · exact h1
        · rcases List.mem_cons.1 h2 with h2 | h2
          · exact h2.symm
          · have := hm.1 x h1; have := hl.1 y h2; omega
      subst e
      congr 1
      refine ih hl.2 hm.2 fun z => ?_
      constructor
      · intro hz
        rcases List.mem_cons.1 ((h z).1 (by simp [hz])) with e | h1
        · subst e; have := hl.1 z hz; omega
        · exact h1
      · intro hz
        rcases List.mem_cons.1 ((h z).2 (by simp [hz])) with e | h1
        · subst e; have := hm.1 z hz; omega
        · exact h1
/-- The runs of rising numbers. -/
def setOf (l : List Int) : S := l.foldl (fun s x => wth s (x, x + 1)) []
theorem setOf_snoc (l : List Int) (x : Int) : setOf (l ++ [x]) = wth (setOf l) (x, x + 1) := by simp [setOf]
theorem setOf_len (l : List Int) : (setOf l).length ≤ l.length := by
  have : ∀ r : List Int, (setOf r.reverse).length ≤ r.length := by
    intro r
    induction r with
    | nil => simp [setOf]
    | cons x r ih =>
      rw [List.reverse_cons, setOf_snoc]
      have := wth_len (setOf r.reverse) (x, x + 1)
      simp only [List.length_cons]; omega
  have := this l.reverse
  simpa using this
theorem setOf_spec {l : List Int} (ha : Asc l) (hr : ∀ x ∈ l, 0 ≤ x ∧ x < 65536) : Rt (-1) (setOf l) ∧ (∀ x, has (setOf l) x = true ↔ x ∈ l) ∧ (∀ y, (∀ x ∈ l, x < y) → 0 ≤ y → top (-1) (setOf l) ≤ y) := by
  have : ∀ r : List Int, Asc r.reverse → (∀ x ∈ r.reverse, 0 ≤ x ∧ x < 65536) → Rt (-1) (setOf r.reverse) ∧ (∀ x, has (setOf r.reverse) x = true ↔ x ∈ r.reverse) ∧ (∀ y, (∀ x ∈ r.reverse, x < y) → 0 ≤ y → top (-1) (setOf r.reverse) ≤ y) := by
    intro r
    induction r with
    | nil => intro _ _; exact ⟨trivial, fun x => by simp [setOf, has], fun y _ hy => by simp [setOf, top]; omega⟩
    | cons x r ih =>
      intro ha hr
      rw [List.reverse_cons] at ha hr ⊢
      obtain ⟨ha1, ha2⟩ := (asc_snoc _ _).1 ha
      obtain ⟨i1, i2, i3⟩ := ih ha1 fun y hy => hr y (List.mem_append_left _ hy)
      have hx := hr x (by simp)
      obtain ⟨w1, w2, w3⟩ := wth_spec (r := (x, x + 1)) i1 (i3 x ha2 hx.1) hx.1 (by dsimp only; omega) (by dsimp only; omega)
      rw [setOf_snoc]
      refine ⟨w1, fun y => ?_, fun y hy _ => ?_⟩
      · rw [w3, Bool.or_eq_true, i2, List.mem_append, List.mem_singleton]
        simp only [Bool.and_eq_true, decide_eq_true_eq]
        constructor
        · rintro (h | h)
          · exact .inl h
          · exact .inr (by omega)
        · rintro (h | h)
          · exact .inl h
          · exact .inr (by omega)
      · rw [w2]; have := hy x (by simp); dsimp only; omega
  have := this l.reverse
  simpa using this (by simpa using ha) (by simpa using hr)
/-- A set's numbers make the set. -/
theorem setOf_elts {s : S} (h : Rt (-1) s) : setOf (elts s) = s := by
  have hm : ∀ x ∈ elts s, 0 ≤ x ∧ x < 65536 := fun x hx => by
    have := has_gt h ((mem_elts _ _).1 hx); omega
  obtain ⟨h1, h2, _⟩ := setOf_spec (asc_elts h) hm
  exact ext h1 h fun x => bool_eq (by rw [h2, mem_elts])
theorem elts_setOf {l : List Int} (ha : Asc l) (hr : ∀ x ∈ l, 0 ≤ x ∧ x < 65536) : elts (setOf l) = l := by
  obtain ⟨h1, h2, _⟩ := setOf_spec ha hr
  exact asc_ext (asc_elts h1) ha fun x => by rw [mem_elts, h2]
theorem asc_filter {l : List Int} (h : Asc l) (p : Int → Bool) : Asc (l.filter p) := List.Pairwise.filter _ h
/-! ### two sets, edge by edge -/
def edge (A : S) (i : Bool) : Int := match A with
  | [] => 65537
  | r :: _ => if i = true then r.2 else r.1
def nextS (A : S) (i : Bool) (at' : Int) : S := if edge A i = at' then (if i = true then A.tail else A) else A
def nextI (A : S) (i : Bool) (at' : Int) : Bool := if edge A i = at' then !i else i
/-- What a set has from 'last' on. -/
def hs (A : S) (i : Bool) (x : Int) : Bool := match A with
  | [] => false
  | r :: A' => if i = true then decide (x < r.2) || has A' x else has (r :: A') x
def Wf (last : Int) (A : S) (i : Bool) : Prop := match A with
  | [] => i = false
  | r :: A' => if i = true then last < r.2 ∧ r.2 ≤ 65536 ∧ Rt r.2 A' else Rt (last - 1) (r :: A')
theorem edge_ge {last : Int} {A : S} {i : Bool} (h : Wf last A i) (hl : last ≤ 65536) : last ≤ edge A i := by
  cases A with
  | nil => unfold edge; dsimp only; omega
  | cons r A =>
    unfold Wf at h
    unfold edge
    cases i with
    | true => simp at h ⊢; omega
    | false => simp [Rt] at h ⊢; omega
theorem edge_le {last : Int} {A : S} {i : Bool} (h : Wf last A i) (hA : A ≠ []) : edge A i ≤ 65536 := by
  cases A with
  | nil => exact absurd rfl hA
  | cons r A =>
    unfold Wf at h
    unfold edge
    cases i with
    | true => simp at h ⊢; omega
    | false => simp [Rt] at h ⊢; omega
theorem hs_flat {last at' : Int} {A : S} {i : Bool} (h : Wf last A i) (ha : at' ≤ edge A i) {x : Int} (h1 : last ≤ x) (h2 : x < at') : hs A i x = i := by
  cases A with
  | nil => unfold Wf at h; subst h; rfl
  | cons r A =>
    unfold Wf at h
    unfold edge at ha
    unfold hs
    cases i with
    | true => simp at ha ⊢; left; omega
    | false =>
      simp at ha h ⊢
      obtain ⟨g1, g2, g3, g4⟩ := h
      have : has A x = false := has_false g4 (by omega)
      simp [has, this]; omega
theorem hs_next {last at' : Int} {A : S} {i : Bool} (h : Wf last A i) (ha : at' ≤ edge A i) (hl : last ≤ at') (hM : at' ≤ 65536) : Wf at' (nextS A i at') (nextI A i at') ∧ ∀ x, at' ≤ x → hs (nextS A i at') (nextI A i at') x = hs A i x := by
  unfold nextS nextI
  cases A with
  | nil =>
    unfold Wf at h; subst h
    unfold edge
    dsimp only
    rw [if_neg (by omega), if_neg (by omega)]
    exact ⟨rfl, fun x _ => rfl⟩
  | cons r A =>
    unfold Wf at h
    by_cases e : edge (r :: A) i = at'
    · rw [if_pos e, if_pos e]
      cases i with
      | true =>
        simp only [if_true] at h ⊢
        have e : r.2 = at' := e
        subst e
        refine ⟨?_, fun x hx => ?_⟩
        · cases A with
          | nil => rfl
          | cons q A =>
            show Rt (r.2 - 1) (q :: A)
            exact rt_mono h.2.2 (by omega)
        · have hd : decide (x < r.2) = false := by simp; omega
          show hs A false x = (decide (x < r.2) || has A x)
          rw [hd]
          cases A with
          | nil => rfl
          | cons q A => rfl
      | false =>
        simp only [Bool.false_eq_true, if_false] at h ⊢
        have e : r.1 = at' := e
        subst e
        obtain ⟨g1, g2, g3, g4⟩ := h
        refine ⟨⟨g2, g3, g4⟩, fun x hx => ?_⟩
        show (decide (x < r.2) || has A x) = ((decide (r.1 ≤ x) && decide (x < r.2)) || has A x)
        have hd : decide (r.1 ≤ x) = true := by simp; omega
        rw [hd, Bool.true_and]
    · rw [if_neg e, if_neg e]
      refine ⟨?_, fun x hx => rfl⟩
      unfold Wf
      have ha' : at' < edge (r :: A) i := by omega
      cases i with
      | true =>
        have ha' : at' < r.2 := ha'
        simp only [if_true] at h ⊢
        exact ⟨ha', h.2⟩
      | false =>
        have ha' : at' < r.1 := ha'
        simp only [Bool.false_eq_true, if_false] at h ⊢
        exact ⟨by omega, h.2⟩
/-- Between two rounds. -/
structure Inv (op : Bool → Bool → Bool) (a b A : S) (i : Bool) (B : S) (j : Bool) (last : Int) (out : S) : Prop where
  wa : Wf last A i
  wb : Wf last B j
  lo : 0 ≤ last
  hi : last ≤ 65536
  ea : ∀ x, last ≤ x → hs A i x = has a x
  eb : ∀ x, last ≤ x → hs B j x = has b x
  rt : Rt (-1) out
  tp : top (-1) out ≤ last
  eq : ∀ x, has out x = (decide (x < last) && op (has a x) (has b x))
theorem Inv.start {op : Bool → Bool → Bool} {a b : S} (hop : op false false = false) (ha : Rt (-1) a) (hb : Rt (-1) b) : Inv op a b a false b false 0 [] := by
  have w : ∀ s : S, Rt (-1) s → Wf 0 s false ∧ ∀ x, hs s false x = has s x := by
    intro s h
    cases s with
    | nil => exact ⟨rfl, fun _ => rfl⟩
    | cons r s => exact ⟨by unfold Wf; simpa using h, fun _ => by unfold hs; simp⟩
  refine ⟨(w a ha).1, (w b hb).1, by omega, by omega, fun x _ => (w a ha).2 x, fun x _ => (w b hb).2 x, trivial, by simp [top], fun x => ?_⟩
  by_cases hx : x < 0
  · rw [has_false ha (by omega), has_false hb (by omega), hop]; simp [has]
  · have : decide (x < 0) = false := by simpa using hx
    rw [this]; simp [has]
def atOf (A : S) (i : Bool) (B : S) (j : Bool) : Int := min (min 65537 (edge A i)) (edge B j)
def outOf (op : Bool → Bool → Bool) (i j : Bool) (last at' : Int) (out : S) : S := if last < at' ∧ op i j = true then wth out (last, at') else out
theorem Inv.round {op : Bool → Bool → Bool} {a b A B out : S} {i j : Bool} {last : Int} (h : Inv op a b A i B j last out) (hne : A ≠ [] ∨ B ≠ []) :
    last ≤ atOf A i B j ∧ atOf A i B j ≤ 65536 ∧ Inv op a b (nextS A i (atOf A i B j)) (nextI A i (atOf A i B j)) (nextS B j (atOf A i B j)) (nextI B j (atOf A i B j)) (atOf A i B j) (outOf op i j last (atOf A i B j) out) := by
  have e1 := edge_ge h.wa h.hi
  have e2 := edge_ge h.wb h.hi
  have e3 := h.hi
  have e4 := h.lo
  have hle : atOf A i B j ≤ 65536 := by
    unfold atOf
    rcases hne with hA | hB
    · have := edge_le h.wa hA; omega
    · have := edge_le h.wb hB; omega
  have hla : last ≤ atOf A i B j := by unfold atOf; omega
  have hA : atOf A i B j ≤ edge A i := by unfold atOf; omega
  have hB : atOf A i B j ≤ edge B j := by unfold atOf; omega
  generalize atOf A i B j = at' at *
  obtain ⟨n1, n2⟩ := hs_next h.wa hA hla hle
  obtain ⟨n3, n4⟩ := hs_next h.wb hB hla hle
  have flat : ∀ x, last ≤ x → x < at' → has a x = i ∧ has b x = j := fun x h1 h2 => ⟨by rw [← h.ea x h1]; exact hs_flat h.wa hA h1 h2, by rw [← h.eb x h1]; exact hs_flat h.wb hB h1 h2⟩
  have key : Rt (-1) (outOf op i j last at' out) ∧ top (-1) (outOf op i j last at' out) ≤ at' ∧ ∀ x, has (outOf op i j last at' out) x = (decide (x < at') && op (has a x) (has b x)) := by
    have tp := h.tp
    unfold outOf
    split
    · rename_i hc
      obtain ⟨w1, w2, w3⟩ := wth_spec (r := (last, at')) h.rt h.tp h.lo hc.1 hle
      refine ⟨w1, by rw [w2]; exact Int.le_refl _, fun x => ?_⟩
      rw [w3, h.eq]
      by_cases hx : last ≤ x
      · by_cases hx2 : x < at'
        · obtain ⟨f1, f2⟩ := flat x hx hx2
          simp [f1, f2, hc.2, hx, hx2]
        · simp [hx2, show ¬ x < last by omega]
      · simp [hx, show x < last by omega, show x < at' by omega]
    · rename_i hc
      refine ⟨h.rt, by omega, fun x => ?_⟩
      rw [h.eq]
      by_cases hx : x < last
      · simp [hx, show x < at' by omega]
      · by_cases hx2 : x < at'
        · obtain ⟨f1, f2⟩ := flat x (by omega) hx2
          have : op i j = false := by
            cases ho : op i j with
            | false => rfl
            | true => exact absurd ⟨by omega, ho⟩ hc
          rw [f1, f2, this]; simp
        · simp [hx, hx2]
  exact ⟨hla, hle, n1, n3, by omega, hle, fun x hx => by rw [n2 x hx]; exact h.ea x (by omega), fun x hx => by rw [n4 x hx]; exact h.eb x (by omega), key.1, key.2.1, key.2.2⟩
theorem Inv.fin {op : Bool → Bool → Bool} {a b out : S} {i j : Bool} {last : Int} (hop : op false false = false) (h : Inv op a b [] i [] j last out) (x : Int) : has out x = op (has a x) (has b x) := by
  rw [h.eq]
  by_cases hx : x < last
  · simp [hx]
  · have e1 := h.ea x (by omega)
    have e2 := h.eb x (by omega)
    have e3 : hs [] i x = false := rfl
    have e4 : hs [] j x = false := rfl
    rw [e3] at e1
    rw [e4] at e2
    rw [← e1, ← e2, hop]; simp
/-- How many edges are left. -/
def left (A : S) (i : Bool) : Nat := 2 * A.length - (if i = true then 1 else 0)
theorem left_next {last at' : Int} {A : S} {i : Bool} (h : Wf last A i) : left (nextS A i at') (nextI A i at') ≤ left A i ∧ (edge A i = at' → A ≠ [] → left (nextS A i at') (nextI A i at') < left A i) := by
  unfold nextS nextI left
  cases A with
  | nil =>
    unfold Wf at h; subst h
    simp
  | cons r A =>
    cases i <;> (split <;> simp <;> omega)
theorem Inv.less {op : Bool → Bool → Bool} {a b A B out : S} {i j : Bool} {last : Int} (h : Inv op a b A i B j last out) (hne : A ≠ [] ∨ B ≠ []) :
    left (nextS A i (atOf A i B j)) (nextI A i (atOf A i B j)) + left (nextS B j (atOf A i B j)) (nextI B j (atOf A i B j)) < left A i + left B j := by
  obtain ⟨l1, l2⟩ := left_next (at' := atOf A i B j) h.wa
  obtain ⟨l3, l4⟩ := left_next (at' := atOf A i B j) h.wb
  have eN : ∀ k, edge [] k = 65537 := fun _ => rfl
  by_cases hA : A = []
  · subst hA
    have hB : B ≠ [] := by simpa using hne
    have := edge_le h.wb hB
    have e : edge B j = atOf [] i B j := by unfold atOf; rw [eN]; omega
    have := l4 e hB; omega
  · have e1 := edge_le h.wa hA
    by_cases hB : B = []
    · subst hB
      have e : edge A i = atOf A i [] j := by unfold atOf; rw [eN]; omega
      have := l2 e hA; omega
    · have e2 := edge_le h.wb hB
      have : edge A i = atOf A i B j ∨ edge B j = atOf A i B j := by unfold atOf; omega
      rcases this with e | e
      · have := l2 e hA; omega
      · have := l4 e hB; omega
/-- What two sets come to. -/
def Is (op : Bool → Bool → Bool) (a b u : S) : Prop := Rt (-1) u ∧ ∀ x, has u x = op (has a x) (has b x)
theorem Is.one {op : Bool → Bool → Bool} {a b u v : S} (h : Is op a b u) (g : Is op a b v) : u = v := ext h.1 g.1 fun x => by rw [h.2, g.2]
end Go.Run
