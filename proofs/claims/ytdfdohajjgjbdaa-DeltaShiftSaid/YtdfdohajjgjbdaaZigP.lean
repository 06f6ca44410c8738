/- The plain law of a number's bytes: no program in sight. -/
import Derived.Test.YtdfdohajjgjbdaaVcLaws
namespace Go.Zig
/-- The groups of seven bits of a number, but for the last one, the first ahead. -/
def hi (u : Nat) : List UInt8 := if u = 0 then [] else hi (u / 128) ++ [UInt8.ofNat (128 + u % 128)]
termination_by u
decreasing_by omega
def zu (u : Nat) : List UInt8 := hi (u / 128) ++ [UInt8.ofNat (u % 128)]
theorem hi_zero : hi 0 = [] := by rw [hi]; simp
theorem hi_zero' {u : Nat} (h : u = 0) : hi u = [] := by rw [h, hi_zero]
theorem hi_pos {u : Nat} (h : 0 < u) : hi u = hi (u / 128) ++ [UInt8.ofNat (128 + u % 128)] := by rw [hi, if_neg (by omega)]
theorem hi_len (n : Nat) : ∀ u, u < 128 ^ n → (hi u).length ≤ n := by
  induction n with
  | zero => intro u h; have : u = 0 := by omega
            subst this; simp [hi_zero]
  | succ n ih =>
    intro u h
    by_cases h0 : u = 0
    · subst h0; simp [hi_zero]
    · rw [hi_pos (by omega), List.length_append, List.length_singleton]
      have := ih (u / 128) (by rw [Nat.pow_succ] at h; omega)
      omega
theorem zu_len {u : Nat} (h : u < 18446744073709551616) : (zu u).length ≤ 10 ∧ 1 ≤ (zu u).length := by
  have := hi_len 9 (u / 128) (by omega)
  simp only [zu, List.length_append, List.length_singleton]; omega
/-- What the program has written after i of its ten rounds. -/
def dg (u i : Nat) : List UInt8 := if i < 10 then hi (u / 128 ^ (10 - i)) else zu u
theorem dg_zero {u : Nat} (h : u < 18446744073709551616) : dg u 0 = [] := by
  unfold dg; rw [if_pos (by omega), Nat.div_eq_of_lt (by omega), hi_zero]
theorem dg_ten (u : Nat) : dg u 10 = zu u := rfl
theorem dg_last (u : Nat) : dg u 9 = hi (u / 128) := rfl
theorem dg_step {u i : Nat} (h : i < 9) : dg u (i + 1) = if u / 128 ^ (9 - i) = 0 then dg u i else dg u i ++ [UInt8.ofNat (128 + u / 128 ^ (9 - i) % 128)] := by
  unfold dg
  rw [if_pos (show i + 1 < 10 by omega), if_pos (show i < 10 by omega), show 10 - (i + 1) = 9 - i from by omega]
  have e : u / 128 ^ (10 - i) = u / 128 ^ (9 - i) / 128 := by
    rw [Nat.div_div_eq_div_mul, ← Nat.pow_succ]; congr 2; omega
  rw [e]
  by_cases h0 : u / 128 ^ (9 - i) = 0
  · rw [if_pos h0, h0, hi_zero]
  · rw [if_neg h0, hi_pos (Nat.pos_of_ne_zero h0)]
theorem dg_len {u : Nat} (h : u < 18446744073709551616) (i : Nat) : (dg u i).length ≤ 10 := by
  unfold dg; split
  · have := hi_len 10 (u / 128 ^ (10 - i)) (Nat.lt_of_le_of_lt (Nat.div_le_self _ _) (by omega)); exact this
  · exact (zu_len h).1
/-- The number at the beginning, folded, and how many bytes it has. -/
def numGo : Nat → Nat → List UInt8 → Option (Nat × Nat)
  | _, _, [] => none
  | i, u, c :: cs => if i = 10 then none else if (i = 0 ∧ c.toNat = 128) ∨ 144115188075855872 ≤ u then none else
    if c.toNat < 128 then some (u * 128 + c.toNat, i + 1) else numGo (i + 1) (u * 128 + c.toNat % 128) cs
def num (l : List UInt8) : Option (Nat × Nat) := numGo 0 0 l
theorem numGo_ten (u : Nat) (l : List UInt8) : numGo 10 u l = none := by cases l <;> simp [numGo]
theorem numGo_lt (l : List UInt8) : ∀ i u v n, numGo i u l = some (v, n) → i ≤ 10 → u < 18446744073709551616 → v < 18446744073709551616 ∧ i < n ∧ n ≤ i + l.length ∧ n ≤ 10 := by
  induction l with
  | nil => intro i u v n h; simp [numGo] at h
  | cons c l ih =>
    intro i u v n h hi hu
    unfold numGo at h
    split at h
    · cases h
    split at h
    · cases h
    rename_i h10 hbad
    split at h
    · rename_i hc
      simp only [Option.some.injEq, Prod.mk.injEq] at h
      obtain ⟨rfl, rfl⟩ := h
      simp; omega
    · have := ih _ _ _ _ h (by omega) (by omega)
      simp; omega
theorem num_some {l : List UInt8} {v n : Nat} (h : num l = some (v, n)) : v < 18446744073709551616 ∧ 0 < n ∧ n ≤ l.length ∧ n ≤ 10 := by
  have := numGo_lt l 0 0 v n h (by omega) (by omega)
  omega
end Go.Zig
