/- More of the plain law of a number's bytes: they are read back, and they come in the numbers' order. -/
import Derived.Test.YtdfdohajjgjbdaaZigP
namespace Go.Zig
theorem hi_length_pos {q : Nat} (h : 0 < q) : 0 < (hi q).length := by rw [hi_pos h]; simp
theorem numGo_hi : ∀ (q : Nat) (rest : List UInt8), q < 144115188075855872 → numGo 0 0 (hi q ++ rest) = numGo (hi q).length q rest := by
  intro q
  induction q using Nat.strongRecOn with
  | ind q ih =>
    intro rest hq
    by_cases h0 : q = 0
    · subst h0; simp [hi_zero]
    · rw [hi_pos (by omega), List.append_assoc, ih (q / 128) (by omega) _ (by omega), List.length_append, List.length_singleton]
      have hl := hi_len 8 (q / 128) (by omega)
      have hz : (hi (q / 128)).length = 0 → q / 128 = 0 := fun h => by
        by_cases h2 : q / 128 = 0
        · exact h2
        · have := hi_length_pos (Nat.pos_of_ne_zero h2); omega
      have hc : (UInt8.ofNat (128 + q % 128)).toNat = 128 + q % 128 := by simp; omega
      rw [List.singleton_append]
      conv => lhs; unfold numGo
      rw [hc, if_neg (by omega), if_neg (by omega), if_neg (by omega)]
      congr 1; omega
theorem num_zu {u : Nat} (h : u < 18446744073709551616) (r : List UInt8) : num (zu u ++ r) = some (u, (zu u).length) := by
  unfold num zu
  rw [List.append_assoc, numGo_hi _ _ (by omega)]
  have hl := hi_len 9 (u / 128) (by omega)
  have hc : (UInt8.ofNat (u % 128)).toNat = u % 128 := by simp; omega
  rw [List.singleton_append]
  unfold numGo
  rw [hc, if_neg (by omega), if_neg (by omega), if_pos (by omega)]
  simp; omega
/-- No number's bytes begin another's. -/
theorem zu_prefix {u v : Nat} (hu : u < 18446744073709551616) (hv : v < 18446744073709551616) (h : (zu u).take (min (zu u).length (zu v).length) = (zu v).take (min (zu u).length (zu v).length)) : u = v := by
  by_cases hl : (zu u).length ≤ (zu v).length
  · rw [Nat.min_eq_left hl, List.take_length] at h
    have e : zu v = zu u ++ (zu v).drop (zu u).length := by
      conv => lhs; rw [← List.take_append_drop (zu u).length (zu v), ← h]
    have h1 := num_zu hv []
    rw [List.append_nil, e, num_zu hu] at h1
    simp only [Option.some.injEq, Prod.mk.injEq] at h1
    exact h1.1
  · rw [Nat.min_eq_right (by omega), List.take_length] at h
    have e : zu u = zu v ++ (zu u).drop (zu v).length := by
      conv => lhs; rw [← List.take_append_drop (zu v).length (zu u), h]
    have h1 := num_zu hu []
    rw [List.append_nil, e, num_zu hv] at h1
    simp only [Option.some.injEq, Prod.mk.injEq] at h1
    exact h1.1.symm
theorem less_common (p : List UInt8) {a b : UInt8} (h : a < b) (x y : List UInt8) : Op.bytesLess (p ++ a :: x) (p ++ b :: y) = true := by
  induction p with
  | nil => simp [Op.bytesLess, h]
  | cons c p ih => simp [Op.bytesLess, ih]
theorem hi_mono : ∀ (v u : Nat), u ≤ v → (hi u).length ≤ (hi v).length := by
  intro v
  induction v using Nat.strongRecOn with
  | ind v ih =>
    intro u h
    by_cases hu : u = 0
    · subst hu; simp [hi_zero]
    · rw [hi_pos (u := u) (by omega), hi_pos (u := v) (by omega)]
      have := ih (v / 128) (by omega) (u / 128) (by omega)
      simpa using this
theorem hi_less : ∀ (v u : Nat), u < v → (hi u).length = (hi v).length → ∀ x y : List UInt8, Op.bytesLess (hi u ++ x) (hi v ++ y) = true := by
  intro v
  induction v using Nat.strongRecOn with
  | ind v ih =>
    intro u h hl x y
    by_cases hu : u = 0
    · subst hu
      have := hi_length_pos (q := v) (by omega)
      rw [hi_zero] at hl
      simp at hl; omega
    · rw [hi_pos (u := u) (by omega), hi_pos (u := v) (by omega)] at hl ⊢
      simp only [List.length_append, List.length_singleton, Nat.add_right_cancel_iff] at hl
      rw [List.append_assoc, List.append_assoc]
      by_cases hd : u / 128 < v / 128
      · exact ih (v / 128) (by omega) (u / 128) hd hl _ _
      · have e : u / 128 = v / 128 := by omega
        rw [e]
        refine less_common _ ?_ _ _
        rw [UInt8.lt_iff_toNat_lt]; simp; omega
theorem zu_less {u v : Nat} (h : u < v) : (zu u).length < (zu v).length ∨ ((zu u).length = (zu v).length ∧ Op.bytesLess (zu u) (zu v) = true) := by
  have hm := hi_mono (v / 128) (u / 128) (by omega)
  unfold zu
  simp only [List.length_append, List.length_singleton]
  by_cases hl : (hi (u / 128)).length = (hi (v / 128)).length
  · right
    refine ⟨by omega, ?_⟩
    by_cases hd : u / 128 < v / 128
    · exact hi_less _ _ hd hl _ _
    · have e : u / 128 = v / 128 := by omega
      rw [e]
      refine less_common _ ?_ _ _
      rw [UInt8.lt_iff_toNat_lt]; simp; omega
  · left; omega
end Go.Zig
