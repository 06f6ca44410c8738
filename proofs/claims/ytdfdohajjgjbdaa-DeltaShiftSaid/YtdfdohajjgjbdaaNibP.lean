/- The plain law of numbers of few bits: lists of bits, the bytes that they make, the numbers that are read of bytes. -/
import Derived.Test.YtdfdohajjgjbdaaBits
namespace Go.Nib
/-- How many bits a number has. -/
def bl (x : Nat) : Nat := if x = 0 then 0 else Nat.log2 x + 1
theorem bl_le {x k : Nat} : bl x ≤ k ↔ x < 2 ^ k := by
  unfold bl
  split
  · rename_i h; subst h; simp [Nat.two_pow_pos]
  · rename_i h; rw [Nat.succ_le_iff, Nat.log2_lt h]
theorem bl_zero : bl 0 = 0 := rfl
theorem bl_half {x : Nat} (h : 0 < x) : bl x = bl (x / 2) + 1 := by
  apply Nat.le_antisymm
  · rw [bl_le]
    have := (bl_le (x := x / 2) (k := bl (x / 2))).1 (Nat.le_refl _)
    rw [Nat.pow_succ]; omega
  · have h1 := (bl_le (x := x) (k := bl x)).1 (Nat.le_refl _)
    have h2 : 0 < bl x := by
      apply Nat.pos_of_ne_zero
      intro h0; rw [h0] at h1; simp at h1; omega
    have : bl (x / 2) ≤ bl x - 1 := by
      rw [bl_le]
      have e : bl x = (bl x - 1) + 1 := by omega
      rw [e, Nat.pow_succ] at h1; omega
    omega
theorem bl_shift {x : Nat} (k : Nat) (h : 2 ^ k ≤ x) : bl x = k + bl (x / 2 ^ k) := by
  induction k generalizing x with
  | zero => simp
  | succ k ih =>
    have hp := Nat.two_pow_pos k
    rw [Nat.pow_succ] at h ⊢
    rw [bl_half (by omega), ih (by omega), Nat.div_div_eq_div_mul, Nat.mul_comm 2]
    omega
theorem bl_64 {x : Nat} (h : x < 18446744073709551616) : bl x ≤ 64 := bl_le.2 h
def orAll (l : List UInt64) : Nat := l.foldl (fun a x => a ||| x.toNat) 0
def wid (l : List UInt64) : Nat := l.foldl (fun m x => max m (bl x.toNat)) 0
theorem orAll_snoc (l : List UInt64) (x : UInt64) : orAll (l ++ [x]) = orAll l ||| x.toNat := by simp [orAll]
theorem wid_snoc (l : List UInt64) (x : UInt64) : wid (l ++ [x]) = max (wid l) (bl x.toNat) := by simp [wid]
theorem left_or (a b : Nat) : a ≤ a ||| b := Nat.left_le_or
theorem right_or (a b : Nat) : b ≤ a ||| b := Nat.right_le_or
theorem foldl_snoc_induct {P : List UInt64 → Prop} (h0 : P []) (h1 : ∀ l x, P l → P (l ++ [x])) : ∀ l, P l := by
  intro l
  have : ∀ r : List UInt64, P r.reverse := by
    intro r
    induction r with
    | nil => exact h0
    | cons x r ih => rw [List.reverse_cons]; exact h1 _ _ ih
  have := this l.reverse
  rwa [List.reverse_reverse] at this
theorem orAll_lt (k : Nat) : ∀ l : List UInt64, orAll l < 2 ^ k ↔ ∀ x ∈ l, x.toNat < 2 ^ k := by
  refine foldl_snoc_induct (by simp [orAll, Nat.two_pow_pos]) ?_
  intro l x ih
  rw [orAll_snoc]
  constructor
  · intro h y hy
    rcases List.mem_append.1 hy with hy | hy
    · exact ih.1 (Nat.lt_of_le_of_lt (left_or _ _) h) y hy
    · simp only [List.mem_singleton] at hy
      subst hy
      exact Nat.lt_of_le_of_lt (right_or _ _) h
  · intro h
    exact Nat.or_lt_two_pow (ih.2 fun y hy => h y (by simp [hy])) (h x (by simp))
theorem wid_le (k : Nat) : ∀ l : List UInt64, wid l ≤ k ↔ ∀ x ∈ l, x.toNat < 2 ^ k := by
  refine foldl_snoc_induct (by simp [wid]) ?_
  intro l x ih
  rw [wid_snoc, Nat.max_le, ih, bl_le]
  constructor
  · rintro ⟨h1, h2⟩ y hy
    rcases List.mem_append.1 hy with hy | hy
    · exact h1 y hy
    · simp only [List.mem_singleton] at hy
      subst hy; exact h2
  · intro h
    exact ⟨fun y hy => h y (by simp [hy]), h x (by simp)⟩
theorem bl_orAll (l : List UInt64) : bl (orAll l) = wid l := by
  apply Nat.le_antisymm
  · rw [bl_le, orAll_lt, ← wid_le]; exact Nat.le_refl _
  · rw [wid_le, ← orAll_lt, ← bl_le]; exact Nat.le_refl _
theorem orAll_64 (l : List UInt64) : orAll l < 18446744073709551616 := (orAll_lt 64 l).2 fun x _ => x.toNat_lt
theorem wid_64 (l : List UInt64) : wid l ≤ 64 := (wid_le 64 l).2 fun x _ => x.toNat_lt
def high (l : List UInt64) : Nat := l.foldl (fun m x => max m x.toNat) 0
theorem high_snoc (l : List UInt64) (x : UInt64) : high (l ++ [x]) = max (high l) x.toNat := by simp [high]
theorem high_lt (k : Nat) : ∀ l : List UInt64, high l < 2 ^ k ↔ ∀ x ∈ l, x.toNat < 2 ^ k := by
  refine foldl_snoc_induct (by simp [high, Nat.two_pow_pos]) ?_
  intro l x ih
  rw [high_snoc, Nat.max_lt, ih]
  constructor
  · rintro ⟨h1, h2⟩ y hy
    rcases List.mem_append.1 hy with hy | hy
    · exact h1 y hy
    · simp only [List.mem_singleton] at hy
      subst hy; exact h2
  · intro h
    exact ⟨fun y hy => h y (by simp [hy]), h x (by simp)⟩
theorem bl_high (l : List UInt64) : bl (high l) = wid l := by
  apply Nat.le_antisymm
  · rw [bl_le, high_lt, ← wid_le]; exact Nat.le_refl _
  · rw [wid_le, ← high_lt, ← bl_le]; exact Nat.le_refl _
theorem high_64 (l : List UInt64) : high l < 18446744073709551616 := (high_lt 64 l).2 fun x _ => x.toNat_lt
theorem high_top (l : List UInt64) (h : 0 < wid l) : high l / 2 ^ (wid l - 1) = 1 := by
  have hb := bl_high l
  have h1 := (bl_le (x := high l) (k := wid l)).1 (by omega)
  have h2 : ¬ high l < 2 ^ (wid l - 1) := fun hh => by have := bl_le.2 hh; omega
  have e : wid l = (wid l - 1) + 1 := by omega
  rw [e, Nat.pow_succ] at h1
  have hp := Nat.two_pow_pos (wid l - 1)
  have := Nat.div_mul_le_self (high l) (2 ^ (wid l - 1))
  apply Nat.le_antisymm
  · exact Nat.lt_succ_iff.1 ((Nat.div_lt_iff_lt_mul hp).2 (by omega))
  · exact (Nat.le_div_iff_mul_le hp).2 (by omega)

/-! ### bits -/
/-- The number of bits, the lowest first. -/
def toN : List Bool → Nat
  | [] => 0
  | b :: bs => b.toNat + 2 * toN bs
theorem toN_append (a b : List Bool) : toN (a ++ b) = toN a + 2 ^ a.length * toN b := by
  induction a with
  | nil => simp [toN]
  | cons x a ih => rw [List.cons_append, toN, toN, ih, List.length_cons, Nat.pow_succ, Nat.mul_add, Nat.mul_comm (2 ^ a.length) 2, Nat.mul_assoc]; omega
theorem toN_lt (a : List Bool) : toN a < 2 ^ a.length := by
  induction a with
  | nil => simp [toN]
  | cons x a ih => rw [toN, List.length_cons, Nat.pow_succ]; cases x <;> simp <;> omega
theorem toN_snoc (a : List Bool) (b : Bool) : toN (a ++ [b]) = toN a + b.toNat * 2 ^ a.length := by
  rw [toN_append]; simp [toN, Nat.mul_comm]
theorem testBit_toN (a : List Bool) : ∀ i, (toN a).testBit i = a.getD i false := by
  induction a with
  | nil => intro i; simp [toN]
  | cons x a ih =>
    intro i
    rw [toN]
    cases i with
    | zero => cases x <;> simp [Nat.testBit_zero] <;> omega
    | succ i =>
      rw [Nat.testBit_succ]
      have : (x.toNat + 2 * toN a) / 2 = toN a := by cases x <;> simp <;> omega
      rw [this, ih]; simp
def bitsOf (x w : Nat) : List Bool := (List.range w).map x.testBit
theorem bitsOf_len (x w : Nat) : (bitsOf x w).length = w := by simp [bitsOf]
theorem bitsOf_get (x w i : Nat) (h : i < w) : (bitsOf x w)[i]? = some (x.testBit i) := by simp [bitsOf, h]
theorem bitsOf_succ (x w : Nat) : bitsOf x (w + 1) = bitsOf x w ++ [x.testBit w] := by simp [bitsOf, List.range_succ]
theorem toN_bitsOf (x w : Nat) : toN (bitsOf x w) = x % 2 ^ w := by
  apply Nat.eq_of_testBit_eq
  intro i
  rw [testBit_toN, Nat.testBit_mod_two_pow, List.getD_eq_getElem?_getD]
  by_cases h : i < w
  · rw [bitsOf_get _ _ _ h]; simp [h]
  · rw [List.getElem?_eq_none (by rw [bitsOf_len]; omega)]; simp [h]
theorem flat_len {α : Type} {w : Nat} {f : α → List Bool} (hf : ∀ x, (f x).length = w) : ∀ l : List α, (l.flatMap f).length = l.length * w
  | [] => by simp
  | x :: l => by rw [List.flatMap_cons, List.length_append, flat_len hf l, hf, List.length_cons, Nat.add_mul]; omega
theorem flat_get {α : Type} {w : Nat} {f : α → List Bool} (hf : ∀ x, (f x).length = w) : ∀ (l : List α) (k j : Nat) (x : α), l[k]? = some x → j < w → (l.flatMap f)[k * w + j]? = (f x)[j]?
  | [], k, j, x, h, _ => by simp at h
  | y :: l, 0, j, x, h, hj => by
    simp only [List.getElem?_cons_zero, Option.some.injEq] at h
    subst h
    rw [List.flatMap_cons, Nat.zero_mul, Nat.zero_add, List.getElem?_append_left (by rw [hf]; exact hj)]
  | y :: l, k + 1, j, x, h, hj => by
    have ih := flat_get hf l k j x (by simpa using h) hj
    rw [List.flatMap_cons, Nat.add_mul, List.getElem?_append_right (by rw [hf]; omega), hf, ← ih]
    congr 1; omega
theorem flat_drop {α : Type} {w : Nat} {f : α → List Bool} (hf : ∀ x, (f x).length = w) : ∀ (l : List α) (k : Nat), (l.flatMap f).drop (k * w) = (l.drop k).flatMap f
  | [], k => by simp
  | y :: l, 0 => by simp
  | y :: l, k + 1 => by
    rw [List.flatMap_cons, List.drop_succ_cons, ← flat_drop hf l k, Nat.add_mul, Nat.add_comm (k * w), Nat.one_mul, ← List.drop_drop]
    congr 1
    rw [← hf y]; exact List.drop_left
def allBits (l : List UInt64) (w : Nat) : List Bool := l.flatMap fun x => bitsOf x.toNat w
theorem allBits_len (l : List UInt64) (w : Nat) : (allBits l w).length = l.length * w := flat_len (fun _ => bitsOf_len _ _) l
theorem allBits_snoc (l : List UInt64) (x : UInt64) (w : Nat) : allBits (l ++ [x]) w = allBits l w ++ bitsOf x.toNat w := by simp [allBits]
theorem allBits_append (a b : List UInt64) (w : Nat) : allBits (a ++ b) w = allBits a w ++ allBits b w := by simp [allBits]
def byteAt (bs : List Bool) (k : Nat) : Nat := toN ((bs.drop (8 * k)).take 8)
theorem byteAt_lt (bs : List Bool) (k : Nat) : byteAt bs k < 256 := by
  have h := toN_lt ((bs.drop (8 * k)).take 8)
  have h1 : ((bs.drop (8 * k)).take 8).length ≤ 8 := by simp; omega
  have h2 : 2 ^ ((bs.drop (8 * k)).take 8).length ≤ 2 ^ 8 := Nat.pow_le_pow_right (by omega) h1
  unfold byteAt; omega
/-- The first n bytes of bits. -/
def pkN (n : Nat) (bs : List Bool) : List UInt8 := (List.range n).map fun k => UInt8.ofNat (byteAt bs k)
theorem pkN_len (n : Nat) (bs : List Bool) : (pkN n bs).length = n := by simp [pkN]
theorem pkN_get (n : Nat) (bs : List Bool) (k : Nat) (h : k < n) : (pkN n bs)[k]? = some (UInt8.ofNat (byteAt bs k)) := by simp [pkN, h]
theorem pkN_nil (n : Nat) : pkN n [] = List.replicate n 0 := by
  apply List.ext_getElem?
  intro k
  by_cases h : k < n
  · rw [pkN_get _ _ _ h]; simp [h, byteAt, toN]
  · rw [List.getElem?_eq_none (by rw [pkN_len]; omega), List.getElem?_eq_none (by simp; omega)]
theorem byteAt_low (bs : List Bool) : byteAt bs (bs.length / 8) < 2 ^ (bs.length % 8) := by
  have h := toN_lt ((bs.drop (8 * (bs.length / 8))).take 8)
  have : ((bs.drop (8 * (bs.length / 8))).take 8).length = bs.length % 8 := by simp; omega
  rw [this] at h; exact h
theorem byteAt_snoc (bs : List Bool) (b : Bool) : byteAt (bs ++ [b]) (bs.length / 8) = byteAt bs (bs.length / 8) + b.toNat * 2 ^ (bs.length % 8) := by
  unfold byteAt
  have hl : (bs.drop (8 * (bs.length / 8))).length = bs.length % 8 := by simp; omega
  rw [List.drop_append_of_le_length (by omega), List.take_of_length_le (by simp; omega), List.take_of_length_le (by omega), toN_snoc, hl]
theorem byteAt_other (bs : List Bool) (b : Bool) (k : Nat) (h : k ≠ bs.length / 8) : byteAt (bs ++ [b]) k = byteAt bs k := by
  unfold byteAt
  congr 1
  by_cases hk : k < bs.length / 8
  · rw [List.drop_append_of_le_length (by omega), List.take_append_of_le_length (by simp; omega)]
  · rw [List.drop_of_length_le (by simp; omega), List.drop_of_length_le (by omega)]
theorem pkN_snoc (n : Nat) (bs : List Bool) (b : Bool) : pkN n (bs ++ [b]) = (pkN n bs).set (bs.length / 8) (UInt8.ofNat (byteAt bs (bs.length / 8) + b.toNat * 2 ^ (bs.length % 8))) := by
  apply List.ext_getElem?
  intro k
  by_cases h : k < n
  · rw [pkN_get _ _ _ h]
    by_cases hk : k = bs.length / 8
    · rw [hk, List.getElem?_set_self (by rw [pkN_len]; omega), byteAt_snoc]
    · rw [List.getElem?_set_ne (fun e => hk e.symm), pkN_get _ _ _ h, byteAt_other _ _ _ hk]
  · rw [List.getElem?_eq_none (by rw [pkN_len]; omega), List.getElem?_eq_none (by simp [pkN_len]; omega)]
theorem pkN_zero (n : Nat) (bs : List Bool) (h : bs.length ≤ 8 * n) : pkN (n + 1) bs = pkN n bs ++ [0] := by
  unfold pkN
  rw [List.range_succ, List.map_append]
  congr 1
  simp only [List.map_cons, List.map_nil]
  unfold byteAt
  rw [List.drop_of_length_le h]; rfl
theorem pkN_append (n m : Nat) (a b : List Bool) (h : a.length = 8 * n) : pkN (n + m) (a ++ b) = pkN n a ++ pkN m b := by
  unfold pkN
  rw [List.range_add, List.map_append, List.map_map]
  congr 1
  · apply List.map_congr_left
    intro k hk
    have := List.mem_range.1 hk
    unfold byteAt
    rw [List.drop_append_of_le_length (by omega), List.take_append_of_le_length (by simp; omega)]
  · apply List.map_congr_left
    intro k hk
    show UInt8.ofNat (byteAt (a ++ b) (n + k)) = _
    unfold byteAt
    have e : 8 * (n + k) = a.length + 8 * k := by omega
    rw [e, ← List.drop_drop, List.drop_left]
def pack (l : List UInt64) (w : Nat) : List UInt8 := pkN ((l.length * w + 7) / 8) (allBits l w)
theorem pack_len (l : List UInt64) (w : Nat) : (pack l w).length = (l.length * w + 7) / 8 := pkN_len _ _
theorem pack_join (a b : List UInt64) (w : Nat) (h : a.length * w % 8 = 0) : pack (a ++ b) w = pack a w ++ pack b w := by
  unfold pack
  rw [allBits_append, List.length_append, Nat.add_mul]
  have e : (a.length * w + b.length * w + 7) / 8 = (a.length * w + 7) / 8 + (b.length * w + 7) / 8 := by omega
  rw [e]
  exact pkN_append _ _ _ _ (by rw [allBits_len]; omega)
/-! ### numbers of bytes -/
def bitsB (b : List UInt8) : List Bool := b.flatMap fun c => bitsOf c.toNat 8
theorem bitsB_len (b : List UInt8) : (bitsB b).length = b.length * 8 := flat_len (fun _ => bitsOf_len _ _) b
theorem bitsB_get (b : List UInt8) (k : Nat) (h : k / 8 < b.length) : (bitsB b)[k]? = some (b[k / 8].toNat.testBit (k % 8)) := by
  have h1 := flat_get (f := fun c : UInt8 => bitsOf c.toNat 8) (fun _ => bitsOf_len _ _) b (k / 8) (k % 8) _ (List.getElem?_eq_getElem h) (by omega)
  have e : k / 8 * 8 + k % 8 = k := by omega
  rw [e, bitsOf_get _ _ _ (by omega)] at h1
  exact h1
def num (b : List UInt8) (at_ w : Nat) : Nat := toN (((bitsB b).drop at_).take w)
theorem num_lt (b : List UInt8) (at_ w : Nat) (hw : w ≤ 64) : num b at_ w < 18446744073709551616 := by
  have h := toN_lt (((bitsB b).drop at_).take w)
  have h1 : (((bitsB b).drop at_).take w).length ≤ 64 := by simp; omega
  have h2 : 2 ^ (((bitsB b).drop at_).take w).length ≤ 2 ^ 64 := Nat.pow_le_pow_right (by omega) h1
  unfold num; omega
theorem num_lt' (b : List UInt8) (at_ w : Nat) : num b at_ w < 2 ^ w := by
  have h := toN_lt (((bitsB b).drop at_).take w)
  have h1 : (((bitsB b).drop at_).take w).length ≤ w := by simp; omega
  have h2 : 2 ^ (((bitsB b).drop at_).take w).length ≤ 2 ^ w := Nat.pow_le_pow_right (by omega) h1
  unfold num; omega
theorem num_succ (b : List UInt8) (at_ i : Nat) (h : (at_ + i) / 8 < b.length) : num b at_ (i + 1) = num b at_ i + (b[(at_ + i) / 8].toNat.testBit ((at_ + i) % 8)).toNat * 2 ^ i := by
  unfold num
  have hb : (bitsB b)[at_ + i]? = some (b[(at_ + i) / 8].toNat.testBit ((at_ + i) % 8)) := bitsB_get b (at_ + i) h
  have hl := bitsB_len b
  have ht : ((bitsB b).drop at_).take (i + 1) = ((bitsB b).drop at_).take i ++ [b[(at_ + i) / 8].toNat.testBit ((at_ + i) % 8)] := by
    rw [List.take_add_one, List.getElem?_drop, hb]; rfl
  rw [ht, toN_snoc]
  congr 3
  simp; omega
/-- From the top: the bits behind i. -/
def numR (b : List UInt8) (at_ w i : Nat) : Nat := toN ((((bitsB b).drop at_).take w).drop i)
theorem numR_zero (b : List UInt8) (at_ w : Nat) : numR b at_ w 0 = num b at_ w := rfl
theorem numR_end (b : List UInt8) (at_ w : Nat) : numR b at_ w w = 0 := by
  unfold numR; rw [List.drop_of_length_le (by simp; omega)]; rfl
theorem numR_step (b : List UInt8) (at_ w i : Nat) (hi : i < w) (h : (at_ + i) / 8 < b.length) : numR b at_ w i = 2 * numR b at_ w (i + 1) + (b[(at_ + i) / 8].toNat.testBit ((at_ + i) % 8)).toNat := by
  unfold numR
  have hb : (bitsB b)[at_ + i]? = some (b[(at_ + i) / 8].toNat.testBit ((at_ + i) % 8)) := bitsB_get b (at_ + i) h
  have hl := bitsB_len b
  have hlt : i < (((bitsB b).drop at_).take w).length := by simp; omega
  rw [List.drop_eq_getElem_cons hlt, toN, Nat.add_comm]
  congr 2
  have : (((bitsB b).drop at_).take w)[i]? = (bitsB b)[at_ + i]? := by rw [List.getElem?_take, if_pos hi, List.getElem?_drop]
  rw [hb, List.getElem?_eq_getElem hlt] at this
  exact Option.some.inj this
theorem numR_lt (b : List UInt8) (at_ w i : Nat) (hw : w ≤ 64) (hi : i ≤ w) : numR b at_ w i < 2 ^ (64 - i) := by
  have h := toN_lt ((((bitsB b).drop at_).take w).drop i)
  have h1 : ((((bitsB b).drop at_).take w).drop i).length ≤ 64 - i := by simp; omega
  have h2 := Nat.pow_le_pow_right (n := 2) (by omega) h1
  unfold numR; omega
def nums (b : List UInt8) (n w : Nat) : List UInt64 := (List.range n).map fun i => UInt64.ofNat (num b (i * w) w)
theorem nums_len (b : List UInt8) (n w : Nat) : (nums b n w).length = n := by simp [nums]
theorem nums_succ (b : List UInt8) (n w : Nat) : nums b (n + 1) w = nums b n w ++ [UInt64.ofNat (num b (n * w) w)] := by simp [nums, List.range_succ]
theorem nums_lt (b : List UInt8) (n w : Nat) (hw : w ≤ 64) : ∀ x ∈ nums b n w, x.toNat < 2 ^ w := by
  intro x hx
  obtain ⟨i, _, rfl⟩ := List.mem_map.1 hx
  have h := num_lt b (i * w) w hw
  have h2 := num_lt' b (i * w) w
  simp only [UInt64.toNat_ofNat']
  rw [Nat.mod_eq_of_lt h]; exact h2
theorem wid_nums (b : List UInt8) (n w : Nat) (hw : w ≤ 64) : wid (nums b n w) ≤ w := (wid_le w _).2 (nums_lt b n w hw)
/-- The bits of the bytes that bits make, are these. -/
theorem bitsB_pkN (n : Nat) (bs : List Bool) (h : bs.length ≤ 8 * n) : (bitsB (pkN n bs)).take bs.length = bs := by
  apply List.ext_getElem?
  intro k
  rw [List.getElem?_take]
  split
  · rename_i hk
    have hn : k / 8 < (pkN n bs).length := by rw [pkN_len]; omega
    rw [bitsB_get _ _ hn]
    have hg : (pkN n bs)[k / 8] = UInt8.ofNat (byteAt bs (k / 8)) := by
      have := pkN_get n bs (k / 8) (by omega)
      rw [List.getElem?_eq_getElem hn] at this
      exact Option.some.inj this
    have hb := byteAt_lt bs (k / 8)
    have e : (UInt8.ofNat (byteAt bs (k / 8))).toNat = byteAt bs (k / 8) := by simp; omega
    rw [hg, e]
    unfold byteAt
    rw [testBit_toN, List.getD_eq_getElem?_getD, List.getElem?_take, if_pos (by omega), List.getElem?_drop]
    have : 8 * (k / 8) + k % 8 = k := by omega
    rw [this, List.getElem?_eq_getElem hk]; simp
  · rename_i hk; rw [List.getElem?_eq_none (by omega)]
theorem num_pack (l : List UInt64) (w i : Nat) (hi : i < l.length) (hw : l[i].toNat < 2 ^ w) : num (pack l w) (i * w) w = l[i].toNat := by
  unfold num
  have hl := allBits_len l w
  have h1 : (i + 1) * w ≤ l.length * w := Nat.mul_le_mul_right _ hi
  rw [Nat.add_mul, Nat.one_mul] at h1
  have h2 := bitsB_pkN ((l.length * w + 7) / 8) (allBits l w) (by rw [hl]; omega)
  have e : ((bitsB (pack l w)).drop (i * w)).take w = ((allBits l w).drop (i * w)).take w := by
    rw [← h2, List.drop_take, List.take_take, hl]
    rw [Nat.min_eq_left (by omega)]; rfl
  rw [e]
  unfold allBits
  rw [flat_drop (fun _ => bitsOf_len _ _), List.drop_eq_getElem_cons hi, List.flatMap_cons, List.take_append_of_le_length (by rw [bitsOf_len]; omega), List.take_of_length_le (by rw [bitsOf_len]; omega), toN_bitsOf, Nat.mod_eq_of_lt hw]
theorem nums_pack (l : List UInt64) (w : Nat) (hw : wid l ≤ w) : nums (pack l w) l.length w = l := by
  have hx := (wid_le w l).1 hw
  apply List.ext_getElem?
  intro i
  by_cases h : i < l.length
  · unfold nums
    simp only [List.getElem?_map, List.getElem?_range h, Option.map_some, List.getElem?_eq_getElem h]
    rw [num_pack l w i h (hx _ (List.getElem_mem h))]
    simp
  · rw [List.getElem?_eq_none (by rw [nums_len]; omega), List.getElem?_eq_none (by omega)]
end Go.Nib
