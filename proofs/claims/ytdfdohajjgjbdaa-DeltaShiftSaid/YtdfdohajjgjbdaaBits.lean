/- Plain facts on the bit operations of the model's integers. -/
import Derived.Test.YtdfdohajjgjbdaaVcLaws
namespace Go.Vc

theorem ofInt_nat (n : Nat) (w : Nat) : BitVec.ofInt w (n : Int) = BitVec.ofNat w n := by
  apply BitVec.eq_of_toNat_eq
  simp [BitVec.toNat_ofInt]
theorem wrap_u64_nat {n : Nat} (h : n < 18446744073709551616) : IntKind.u64.wrap (n : Int) = n := wrap_u64 (by omega)
theorem bitI_and64 (a b : Int) : bitI .and .u64 a b = IntKind.u64.wrap ((BitVec.ofInt 64 a &&& BitVec.ofInt 64 b).toNat : Int) := rfl
theorem bitI_or64 (a b : Int) : bitI .or .u64 a b = IntKind.u64.wrap ((BitVec.ofInt 64 a ||| BitVec.ofInt 64 b).toNat : Int) := rfl
theorem bitI_xor64 (a b : Int) : bitI .xor .u64 a b = IntKind.u64.wrap ((BitVec.ofInt 64 a ^^^ BitVec.ofInt 64 b).toNat : Int) := rfl
theorem bitI_xori (a b : Int) : bitI .xor .i64 a b = IntKind.i64.wrap ((BitVec.ofInt 64 a ^^^ BitVec.ofInt 64 b).toNat : Int) := rfl
theorem bit_u64_and (a b : Nat) (ha : a < 18446744073709551616) : bitI .and .u64 a b = ((a &&& b : Nat) : Int) := by
  have h1 : a &&& b ≤ a := Nat.and_le_left
  rw [bitI_and64]
  simp only [ofInt_nat, BitVec.toNat_and, BitVec.toNat_ofNat]
  rw [← Nat.and_mod_two_pow, Nat.mod_eq_of_lt (by omega)]
  exact wrap_u64_nat (by omega)
theorem bit_u64_or (a b : Nat) (ha : a < 18446744073709551616) (hb : b < 18446744073709551616) : bitI .or .u64 a b = ((a ||| b : Nat) : Int) := by
  have h1 : a ||| b < 2 ^ 64 := Nat.or_lt_two_pow ha hb
  rw [bitI_or64]
  simp only [ofInt_nat, BitVec.toNat_or, BitVec.toNat_ofNat]
  rw [Nat.mod_eq_of_lt (show a < 2 ^ 64 by omega), Nat.mod_eq_of_lt (show b < 2 ^ 64 by omega)]
  exact wrap_u64_nat (by omega)
theorem bit_u64_xor (a b : Nat) (ha : a < 18446744073709551616) (hb : b < 18446744073709551616) : bitI .xor .u64 a b = ((a ^^^ b : Nat) : Int) := by
  have h1 : a ^^^ b < 2 ^ 64 := Nat.xor_lt_two_pow ha hb
  rw [bitI_xor64]
  simp only [ofInt_nat, BitVec.toNat_xor, BitVec.toNat_ofNat]
  rw [Nat.mod_eq_of_lt (show a < 2 ^ 64 by omega), Nat.mod_eq_of_lt (show b < 2 ^ 64 by omega)]
  exact wrap_u64_nat (by omega)
theorem xor_u64_zero (a : Int) (ha : 0 ≤ a ∧ a < 18446744073709551616) : bitI .xor .u64 a 0 = a := by
  obtain ⟨n, rfl⟩ := Int.eq_ofNat_of_zero_le ha.1
  have := bit_u64_xor n 0 (by omega) (by omega)
  simpa using this
theorem xor_u64_ones (a : Int) (ha : 0 ≤ a ∧ a < 18446744073709551616) : bitI .xor .u64 a 18446744073709551615 = 18446744073709551615 - a := by
  obtain ⟨n, rfl⟩ := Int.eq_ofNat_of_zero_le ha.1
  have h := bit_u64_xor n 18446744073709551615 (by omega) (by omega)
  have e : n ^^^ 18446744073709551615 = 18446744073709551615 - n := by
    have h1 : (BitVec.ofNat 64 n ^^^ BitVec.allOnes 64).toNat = (~~~(BitVec.ofNat 64 n)).toNat := by rw [BitVec.xor_allOnes]
    simp only [BitVec.toNat_xor, BitVec.toNat_ofNat, BitVec.toNat_allOnes, BitVec.toNat_not] at h1
    rw [Nat.mod_eq_of_lt (show n < 2 ^ 64 by omega)] at h1
    simpa using h1
  rw [e] at h
  have : ((18446744073709551615 : Nat) : Int) = 18446744073709551615 := rfl
  rw [this] at h
  rw [h]; omega
theorem xor_i64_zero (a : Int) (ha : -9223372036854775808 ≤ a ∧ a ≤ 9223372036854775807) : bitI .xor .i64 a 0 = a := by
  rw [bitI_xori]
  have : BitVec.ofInt 64 0 = 0#64 := rfl
  rw [this, BitVec.xor_zero, BitVec.toNat_ofInt]
  simp only [IntKind.wrap_i64]
  omega
theorem xor_i64_ones (a : Int) (ha : -9223372036854775808 ≤ a ∧ a ≤ 9223372036854775807) : bitI .xor .i64 a (-1) = -a - 1 := by
  rw [bitI_xori]
  have : BitVec.ofInt 64 (-1) = BitVec.allOnes 64 := rfl
  rw [this, BitVec.xor_allOnes, BitVec.toNat_not, BitVec.toNat_ofInt]
  simp only [IntKind.wrap_i64]
  omega
theorem b8_andNot : ∀ c : Fin 256, bitI .andNot .u8 (c.val : Int) 128 = ((c.val % 128 : Nat) : Int) := by decide +kernel
theorem b8_and : ∀ c : Fin 256, bitI .and .u8 (c.val : Int) 128 = if c.val < 128 then 0 else 128 := by decide +kernel
theorem b8_or : ∀ c : Fin 128, bitI .or .u8 (c.val : Int) 128 = ((c.val + 128 : Nat) : Int) := by decide +kernel
theorem andNot_byte (c : UInt8) : bitI .andNot .u8 (c.toNat : Int) 128 = ((c.toNat % 128 : Nat) : Int) := b8_andNot ⟨c.toNat, c.toNat_lt⟩
theorem and_byte (c : UInt8) : bitI .and .u8 (c.toNat : Int) 128 = if c.toNat < 128 then 0 else 128 := b8_and ⟨c.toNat, c.toNat_lt⟩
theorem or_byte (n : Nat) (h : n < 128) : bitI .or .u8 (n : Int) 128 = ((n + 128 : Nat) : Int) := b8_or ⟨n, h⟩
theorem or_shift7 (u x : Nat) (hu : u < 144115188075855872) (hx : x < 128) : bitI .or .u64 ((u * 128 : Nat) : Int) (x : Int) = ((u * 128 + x : Nat) : Int) := by
  rw [bit_u64_or _ _ (by omega) (by omega)]
  have := Nat.two_pow_add_eq_or_of_lt (i := 7) (b := x) hx u
  rw [Nat.mul_comm u 128]
  rw [show (128 : Nat) = 2 ^ 7 from rfl, this]
theorem low7 (c : UInt8) : bitI .andNot .u8 (c.toNat : Int) 128 = (c.toNat : Int) % 128 := by rw [andNot_byte]; omega
theorem top8 (c : UInt8) : bitI .and .u8 (c.toNat : Int) 128 = (c.toNat : Int) / 128 * 128 := by
  rw [and_byte]; have := c.toNat_lt; split <;> omega
theorem cat7 (u : Nat) (c : UInt8) (hu : (u : Int) < 144115188075855872) : bitI .or .u64 ((u : Int) * 128) ((c.toNat : Int) % 128) = (u : Int) * 128 + (c.toNat : Int) % 128 := by
  have := or_shift7 u (c.toNat % 128) (by omega) (by omega)
  push_cast at this
  exact this
end Go.Vc
