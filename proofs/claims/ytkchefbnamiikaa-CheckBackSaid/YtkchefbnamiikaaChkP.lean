/- The plain law of checked blocks: the remainder, bit by bit; it is linear, and no burst of 32 bits is lost. -/
import Derived.Test.YtkchefbnamiikaaZigP3
import Derived.Test.YtkchefbnamiikaaNibP
namespace Go.Chk
def poly : Nat := 0x82F63B78
def ones : Nat := 4294967295
/-- One bit further. -/
def st (x : Nat) : Nat := (x / 2) ^^^ (if x % 2 = 1 then poly else 0)
theorem st_bit (x i : Nat) : (st x).testBit i = (x.testBit (i + 1) ^^ (x.testBit 0 && poly.testBit i)) := by
  unfold st
  rw [Nat.testBit_xor, Nat.testBit_div_two, Nat.testBit_zero]
  congr 1
  by_cases h : x % 2 = 1 <;> simp [h]
theorem st_xor (a b : Nat) : st (a ^^^ b) = st a ^^^ st b := by
  apply Nat.eq_of_testBit_eq
  intro i
  rw [Nat.testBit_xor, st_bit, st_bit, st_bit, Nat.testBit_xor, Nat.testBit_xor]
  cases a.testBit (i + 1) <;> cases b.testBit (i + 1) <;> cases a.testBit 0 <;> cases b.testBit 0 <;> cases poly.testBit i <;> rfl
theorem st_even (x : Nat) : st (2 * x) = x := by
  unfold st
  rw [if_neg (by omega)]
  simp
theorem st_lt {x : Nat} (h : x < 4294967296) : st x < 4294967296 := by
  unfold st
  refine Nat.xor_lt_two_pow (n := 32) (by omega) ?_
  split
  · decide
  · omega
theorem st_inj {x y : Nat} (hx : x < 4294967296) (hy : y < 4294967296) (h : st x = st y) : x = y := by
  have h31 : ∀ z, z < 4294967296 → (st z).testBit 31 = z.testBit 0 := by
    intro z hz
    rw [st_bit]
    have h1 : z.testBit 32 = false := Nat.testBit_lt_two_pow hz
    have h2 : poly.testBit 31 = true := by decide
    rw [h1, h2]; simp
  have h0 : x.testBit 0 = y.testBit 0 := by rw [← h31 x hx, ← h31 y hy, h]
  apply Nat.eq_of_testBit_eq
  intro i
  cases i with
  | zero => exact h0
  | succ i =>
    have := congrArg (fun z => z.testBit i) h
    simp only [st_bit, h0] at this
    generalize (y.testBit 0 && poly.testBit i) = q at this
    revert this
    generalize x.testBit (i + 1) = p1
    generalize y.testBit (i + 1) = p2
    clear h h31 h0
    revert p1 p2 q
    decide
def stN : Nat → Nat → Nat
  | 0, x => x
  | n + 1, x => stN n (st x)
theorem stN_succ (n x : Nat) : stN (n + 1) x = st (stN n x) := by
  induction n generalizing x with
  | zero => rfl
  | succ n ih => rw [stN, ih, stN]
theorem stN_add (m n x : Nat) : stN (m + n) x = stN n (stN m x) := by
  induction m generalizing x with
  | zero => simp [stN]
  | succ m ih => rw [Nat.add_right_comm, stN, ih, stN]
theorem stN_xor (n a b : Nat) : stN n (a ^^^ b) = stN n a ^^^ stN n b := by
  induction n generalizing a b with
  | zero => rfl
  | succ n ih => rw [stN, stN, stN, st_xor, ih]
theorem stN_lt (n : Nat) {x : Nat} (h : x < 4294967296) : stN n x < 4294967296 := by
  induction n generalizing x with
  | zero => exact h
  | succ n ih => exact ih (st_lt h)
theorem stN_inj (n : Nat) {x y : Nat} (hx : x < 4294967296) (hy : y < 4294967296) (h : stN n x = stN n y) : x = y := by
  induction n generalizing x y with
  | zero => exact h
  | succ n ih => exact st_inj hx hy (ih (st_lt hx) (st_lt hy) h)
theorem stN_pow (n h : Nat) : stN n (2 ^ n * h) = h := by
  induction n with
  | zero => simp [stN]
  | succ n ih => rw [stN, Nat.pow_succ, Nat.mul_comm (2 ^ n) 2, Nat.mul_assoc, st_even, ih]
theorem stN_zero (n : Nat) : stN n 0 = 0 := by have := stN_pow n 0; simpa using this
theorem split_xor (n h l : Nat) (hl : l < 2 ^ n) : 2 ^ n * h + l = 2 ^ n * h ^^^ l := by
  apply Nat.eq_of_testBit_eq
  intro j
  rw [Nat.testBit_xor, Nat.testBit_two_pow_mul_add _ hl, Nat.testBit_two_pow_mul]
  by_cases hj : j < n
  · rw [if_pos hj]
    have : ¬ j ≥ n := by omega
    simp [this]
  · rw [if_neg hj]
    have h1 : l.testBit j = false := Nat.testBit_lt_two_pow (Nat.lt_of_lt_of_le hl (Nat.pow_le_pow_right (by omega) (by omega)))
    have h2 : j ≥ n := by omega
    simp [h1, h2]
/-- Half a byte at once: what the table has. -/
theorem stN_four (s : Nat) : stN 4 s = s / 16 ^^^ stN 4 (s % 16) := by
  have h := split_xor 4 (s / 16) (s % 16) (by omega)
  have e : 2 ^ 4 * (s / 16) + s % 16 = s := by omega
  rw [e] at h
  conv => lhs; rw [h]
  rw [stN_xor, stN_pow]
/-- Bit by bit, with a number's bits coming in: the same as with all of them at once. -/
def inBits : Nat → Nat → Nat → Nat
  | 0, s, _ => s
  | n + 1, s, c => inBits n ((s / 2) ^^^ (if s % 2 = c % 2 then 0 else poly)) (c / 2)
theorem in_step (s c : Nat) : st (s ^^^ c) = ((s / 2) ^^^ (if s % 2 = c % 2 then 0 else poly)) ^^^ c / 2 := by
  apply Nat.eq_of_testBit_eq
  intro i
  rw [st_bit, Nat.testBit_xor, Nat.testBit_xor, Nat.testBit_xor, Nat.testBit_xor, Nat.testBit_div_two, Nat.testBit_div_two, Nat.testBit_zero, Nat.testBit_zero]
  by_cases h : s % 2 = c % 2
  · rw [if_pos h, h]
    simp
  · rw [if_neg h]
    have : (decide (s % 2 = 1) ^^ decide (c % 2 = 1)) = true := by
      by_cases h1 : s % 2 = 1 <;> by_cases h2 : c % 2 = 1 <;> simp_all <;> omega
    rw [this]
    cases s.testBit (i + 1) <;> cases c.testBit (i + 1) <;> cases poly.testBit i <;> rfl
theorem inBits_st (n s c : Nat) : stN n (s ^^^ c) = inBits n s c ^^^ (c / 2 ^ n) := by
  induction n generalizing s c with
  | zero => simp [stN, inBits]
  | succ n ih => rw [stN, in_step, ih, inBits, Nat.div_div_eq_div_mul, Nat.pow_succ, Nat.mul_comm 2]
theorem inBits_byte (s c : Nat) (hc : c < 256) : inBits 8 s c = stN 8 (s ^^^ c) := by
  rw [inBits_st, Nat.div_eq_of_lt (by omega)]; simp
theorem inBits_succ (n s c : Nat) : inBits (n + 1) s c = (inBits n s c / 2) ^^^ (if inBits n s c % 2 = (c / 2 ^ n) % 2 then 0 else poly) := by
  induction n generalizing s c with
  | zero => simp [inBits]
  | succ n ih =>
    rw [inBits, ih, inBits, Nat.div_div_eq_div_mul, Nat.pow_succ, Nat.mul_comm 2]
theorem inBits_lt (n c : Nat) {s : Nat} (h : s < 4294967296) : inBits n s c < 4294967296 := by
  induction n generalizing s c with
  | zero => exact h
  | succ n ih =>
    rw [inBits]
    refine ih _ (Nat.xor_lt_two_pow (n := 32) (by omega) ?_)
    split
    · omega
    · decide
def byteS (s : Nat) (c : UInt8) : Nat := stN 8 (s ^^^ c.toNat)
def rem (s : Nat) (l : List UInt8) : Nat := l.foldl byteS s
theorem u8_lt (c : UInt8) : c.toNat < 256 := c.toNat_lt
theorem byteS_lt {s : Nat} (h : s < 4294967296) (c : UInt8) : byteS s c < 4294967296 := stN_lt 8 (Nat.xor_lt_two_pow (n := 32) h (by have := u8_lt c; omega))
theorem rem_lt (l : List UInt8) : ∀ {s : Nat}, s < 4294967296 → rem s l < 4294967296 := by
  induction l with
  | nil => intro s h; exact h
  | cons c l ih => intro s h; exact ih (byteS_lt h c)
theorem rem_append (s : Nat) (a b : List UInt8) : rem s (a ++ b) = rem (rem s a) b := by simp [rem]
/-- The sum. -/
def sum (l : List UInt8) : Nat := ones - rem ones l
theorem sum_lt (l : List UInt8) : sum l < 4294967296 := by unfold sum ones; omega
theorem sum_inj {a b : List UInt8} (h : sum a = sum b) : rem ones a = rem ones b := by
  have h1 := rem_lt a (s := ones) (by decide)
  have h2 := rem_lt b (s := ones) (by decide)
  unfold sum at h
  unfold ones at *
  omega
theorem compl_xor {x : Nat} (h : x < 4294967296) : ones - x = ones ^^^ x := by
  have h1 : (BitVec.ofNat 32 x ^^^ BitVec.allOnes 32).toNat = (~~~(BitVec.ofNat 32 x)).toNat := by rw [BitVec.xor_allOnes]
  simp only [BitVec.toNat_xor, BitVec.toNat_ofNat, BitVec.toNat_allOnes, BitVec.toNat_not] at h1
  rw [Nat.mod_eq_of_lt (show x < 2 ^ 32 by omega)] at h1
  have e : (2 ^ 32 - 1 : Nat) = ones := rfl
  rw [Nat.xor_comm, ← e]
  omega
/-- The sum of sums: of three lists of one length. -/
def x3 : List UInt8 → List UInt8 → List UInt8 → List UInt8
  | a :: as, b :: bs, c :: cs => (a ^^^ b ^^^ c) :: x3 as bs cs
  | _, _, _ => []
theorem x3_len : ∀ (a b c : List UInt8), a.length = b.length → b.length = c.length → (x3 a b c).length = a.length
  | [], _, _, _, _ => by simp [x3]
  | _ :: _, [], _, h, _ => by simp at h
  | _ :: _, _ :: _, [], _, h => by simp at h
  | a :: as, b :: bs, c :: cs, h, h' => by simp [x3, x3_len as bs cs (by simpa using h) (by simpa using h')]
theorem xor4 (a b c d e f : Nat) : a ^^^ b ^^^ c ^^^ (d ^^^ e ^^^ f) = (a ^^^ d) ^^^ (b ^^^ e) ^^^ (c ^^^ f) := by
  apply Nat.eq_of_testBit_eq
  intro i
  simp only [Nat.testBit_xor]
  cases a.testBit i <;> cases b.testBit i <;> cases c.testBit i <;> cases d.testBit i <;> cases e.testBit i <;> cases f.testBit i <;> rfl
theorem rem_x3 : ∀ (a b c : List UInt8) (s t u : Nat), a.length = b.length → b.length = c.length → rem (s ^^^ t ^^^ u) (x3 a b c) = rem s a ^^^ rem t b ^^^ rem u c
  | [], [], [], s, t, u, _, _ => rfl
  | _ :: _, [], _, _, _, _, h, _ => by simp at h
  | [], _ :: _, _, _, _, _, h, _ => by simp at h
  | [], [], _ :: _, _, _, _, _, h => by simp at h
  | _ :: _, _ :: _, [], _, _, _, _, h => by simp at h
  | a :: as, b :: bs, c :: cs, s, t, u, h, h' => by
    show rem (byteS (s ^^^ t ^^^ u) (a ^^^ b ^^^ c)) (x3 as bs cs) = rem (byteS s a) as ^^^ rem (byteS t b) bs ^^^ rem (byteS u c) cs
    have e : byteS (s ^^^ t ^^^ u) (a ^^^ b ^^^ c) = byteS s a ^^^ byteS t b ^^^ byteS u c := by
      unfold byteS
      rw [UInt8.toNat_xor, UInt8.toNat_xor, xor4, stN_xor, stN_xor]
    rw [e]
    exact rem_x3 as bs cs _ _ _ (by simpa using h) (by simpa using h')
theorem sum_x3 (a b c : List UInt8) (h : a.length = b.length) (h' : b.length = c.length) : sum (x3 a b c) = sum a ^^^ sum b ^^^ sum c := by
  have l1 := rem_lt a (s := ones) (by decide)
  have l2 := rem_lt b (s := ones) (by decide)
  have l3 := rem_lt c (s := ones) (by decide)
  have l4 := rem_lt (x3 a b c) (s := ones) (by decide)
  unfold sum
  rw [compl_xor l1, compl_xor l2, compl_xor l3, compl_xor l4]
  have e : ones = ones ^^^ ones ^^^ ones := by simp
  have h0 := rem_x3 a b c ones ones ones h h'
  rw [← e] at h0
  rw [h0]
  conv => lhs; arg 1; rw [e]
  rw [xor4]
/-! ### all bits at once; a burst -/
theorem one_split (b : Bool) (t : Nat) : b.toNat + 2 * t = b.toNat ^^^ 2 * t := by
  have := split_xor 1 t b.toNat (by cases b <;> simp)
  rw [Nat.add_comm, Nat.xor_comm]; simpa using this
theorem stN_toN (bs : List Bool) (s : Nat) : bs.foldl (fun s b => st (s ^^^ b.toNat)) s = stN bs.length (s ^^^ Nib.toN bs) := by
  induction bs generalizing s with
  | nil => simp [stN, Nib.toN]
  | cons b bs ih =>
    rw [List.foldl_cons, ih, List.length_cons, stN, Nib.toN, one_split, ← Nat.xor_assoc, st_xor (s ^^^ b.toNat), st_even]
theorem byteS_bits (s : Nat) (c : UInt8) : byteS s c = (Nib.bitsOf c.toNat 8).foldl (fun s b => st (s ^^^ b.toNat)) s := by
  rw [stN_toN, Nib.bitsOf_len, Nib.toN_bitsOf, Nat.mod_eq_of_lt (by have := u8_lt c; omega)]; rfl
theorem rem_bits (l : List UInt8) (s : Nat) : rem s l = stN (l.length * 8) (s ^^^ Nib.toN (Nib.bitsB l)) := by
  rw [← Nib.bitsB_len, ← stN_toN]
  induction l generalizing s with
  | nil => rfl
  | cons c l ih =>
    show rem (byteS s c) l = _
    rw [ih, byteS_bits]
    simp [Nib.bitsB, List.foldl_append]
theorem burst {l l' : List UInt8} {k w : Nat} (hl : l'.length = l.length) (hk : k + 32 ≤ l.length * 8) (hw : w < 4294967296) (hw0 : w ≠ 0) (h : Nib.toN (Nib.bitsB l') = Nib.toN (Nib.bitsB l) ^^^ 2 ^ k * w) : sum l' ≠ sum l := by
  intro hs
  have h1 := sum_inj hs
  rw [rem_bits, rem_bits, hl, h, ← Nat.xor_assoc, stN_xor] at h1
  have h2 : stN (l.length * 8) (2 ^ k * w) = 0 := by
    have := congrArg (fun z => stN (l.length * 8) (ones ^^^ Nib.toN (Nib.bitsB l)) ^^^ z) h1
    simpa [← Nat.xor_assoc] using this
  have e : l.length * 8 = k + (l.length * 8 - k) := by omega
  rw [e, stN_add, stN_pow] at h2
  exact hw0 (stN_inj _ hw (by omega) (h2.trans (stN_zero _).symm))
/-- One bit turned. -/
theorem flip_one (l : List UInt8) (k : Nat) (h : k / 8 < l.length) : Nib.toN (Nib.bitsB (l.set (k / 8) (UInt8.ofNat (l[k / 8].toNat ^^^ 2 ^ (k % 8))))) = Nib.toN (Nib.bitsB l) ^^^ 2 ^ k := by
  apply Nat.eq_of_testBit_eq
  intro j
  rw [Nat.testBit_xor, Nib.testBit_toN, Nib.testBit_toN, Nat.testBit_two_pow, List.getD_eq_getElem?_getD, List.getD_eq_getElem?_getD]
  by_cases hj : j / 8 < l.length
  · rw [Nib.bitsB_get _ j (by simpa using hj), Nib.bitsB_get _ j hj, Option.getD_some, Option.getD_some]
    have hx : l[k / 8].toNat ^^^ 2 ^ (k % 8) < 256 := by
      refine Nat.xor_lt_two_pow (n := 8) (u8_lt _) ?_
      exact Nat.pow_lt_pow_right (n := 8) (by omega) (by omega)
    by_cases hjk : j / 8 = k / 8
    · have e : (l.set (k / 8) (UInt8.ofNat (l[k / 8].toNat ^^^ 2 ^ (k % 8))))[j / 8]'(by simpa using hj) = UInt8.ofNat (l[k / 8].toNat ^^^ 2 ^ (k % 8)) := by
        simp [hjk]
      rw [e, UInt8.toNat_ofNat', Nat.mod_eq_of_lt hx, Nat.testBit_xor, Nat.testBit_two_pow]
      simp only [hjk]
      have : (decide (k % 8 = j % 8)) = decide (k = j) := by rw [decide_eq_decide]; omega
      rw [this]
    · have e : (l.set (k / 8) (UInt8.ofNat (l[k / 8].toNat ^^^ 2 ^ (k % 8))))[j / 8]'(by simpa using hj) = l[j / 8] := by
        rw [List.getElem_set_ne (by omega)]
      rw [e]
      have : decide (k = j) = false := by simp; intro e; exact hjk (by rw [e])
      rw [this]; simp
  · have hb : ∀ m : List UInt8, m.length = l.length → (Nib.bitsB m)[j]? = none := fun m hm => List.getElem?_eq_none (by rw [Nib.bitsB_len, hm]; omega)
    rw [hb _ (by simp), hb _ rfl]
    have : decide (k = j) = false := by simp; intro e; subst e; exact hj h
    rw [this]; simp
theorem burst_step (k w i : Nat) : 2 ^ k * (w % 2 ^ (i + 1)) = 2 ^ k * (w % 2 ^ i) ^^^ (if w / 2 ^ i % 2 = 1 then 2 ^ (k + i) else 0) := by
  apply Nat.eq_of_testBit_eq
  intro j
  rw [Nat.testBit_xor, Nat.testBit_two_pow_mul, Nat.testBit_two_pow_mul, Nat.testBit_mod_two_pow, Nat.testBit_mod_two_pow]
  have hb : decide (w / 2 ^ i % 2 = 1) = w.testBit i := (Nat.testBit_eq_decide_div_mod_eq).symm
  by_cases hj : j ≥ k
  · by_cases hi : j - k = i
    · have e : j = k + i := by omega
      subst e
      have e1 : k + i - k = i := by omega
      by_cases hw : w / 2 ^ i % 2 = 1
      · rw [if_pos hw, Nat.testBit_two_pow]; simp [e1, hw] at hb ⊢; simp [hb]
      · rw [if_neg hw]; simp [e1, hw] at hb ⊢; simp [← hb]
    · have h0 : (if w / 2 ^ i % 2 = 1 then 2 ^ (k + i) else 0).testBit j = false := by
        split
        · rw [Nat.testBit_two_pow]; simp; omega
        · simp
      rw [h0]
      have : decide (j - k < i + 1) = decide (j - k < i) := by rw [decide_eq_decide]; omega
      rw [this]; simp
  · have h0 : (if w / 2 ^ i % 2 = 1 then 2 ^ (k + i) else 0).testBit j = false := by
      split
      · rw [Nat.testBit_two_pow]; simp; omega
      · simp
    rw [h0]; simp [hj]
/-! ### blocks -/
def four (s : Nat) : List UInt8 := [UInt8.ofNat (s / 16777216), UInt8.ofNat (s / 65536), UInt8.ofNat (s / 256), UInt8.ofNat s]
theorem four_len (s : Nat) : (four s).length = 4 := rfl
theorem four_inj {a b : Nat} (ha : a < 4294967296) (hb : b < 4294967296) (h : four a = four b) : a = b := by
  unfold four at h
  simp only [List.cons.injEq, and_true] at h
  obtain ⟨h1, h2, h3, h4⟩ := h
  have g := fun {x y : Nat} (e : UInt8.ofNat x = UInt8.ofNat y) => congrArg UInt8.toNat e
  have h1 := g h1; have h2 := g h2; have h3 := g h3; have h4 := g h4
  simp only [UInt8.toNat_ofNat'] at h1 h2 h3 h4
  omega
end Go.Chk
