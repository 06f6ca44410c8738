/- The plain law of a number's bytes, read: a number that is read has just the bytes that it was read from. -/
import Derived.Test.YtdfdohajjgjbdaaZigP2
namespace Go.Zig
theorem u8_ext {a b : UInt8} (h : a.toNat = b.toNat) : a = b := UInt8.toNat_inj.1 h
theorem numGo_canon : ∀ (l : List UInt8) (i acc u n : Nat), numGo i acc l = some (u, n) → i = (hi acc).length → zu u = hi acc ++ l.take (n - i) ∧ i < n
  | [], i, acc, u, n, h, _ => by simp [numGo] at h
  | c :: cs, i, acc, u, n, h, hi0 => by
    unfold numGo at h
    have hc256 := c.toNat_lt
    split at h
    · cases h
    split at h
    · cases h
    rename_i h10 hbad
    split at h
    · rename_i hc
      simp only [Option.some.injEq, Prod.mk.injEq] at h
      obtain ⟨rfl, rfl⟩ := h
      refine ⟨?_, by omega⟩
      unfold zu
      have e1 : (acc * 128 + c.toNat) / 128 = acc := by omega
      have e2 : UInt8.ofNat ((acc * 128 + c.toNat) % 128) = c := u8_ext (by simp; omega)
      have e3 : i + 1 - i = 1 := by omega
      rw [e1, e2, e3]; rfl
    · rename_i hc
      have hpos : 0 < acc * 128 + c.toNat % 128 := by
        by_cases h0 : acc = 0
        · subst h0
          rw [hi_zero] at hi0
          simp at hi0
          omega
        · omega
      have ehi : hi (acc * 128 + c.toNat % 128) = hi acc ++ [c] := by
        have e1 : (acc * 128 + c.toNat % 128) / 128 = acc := by omega
        have e2 : UInt8.ofNat (128 + (acc * 128 + c.toNat % 128) % 128) = c := u8_ext (by simp; omega)
        rw [hi_pos hpos, e1, e2]
      obtain ⟨h1, h2⟩ := numGo_canon cs (i + 1) _ u n h (by rw [ehi, hi0]; simp)
      refine ⟨?_, by omega⟩
      have e : n - i = (n - (i + 1)) + 1 := by omega
      rw [h1, ehi, e, List.take_succ_cons, List.append_assoc]; rfl
theorem num_canon {l : List UInt8} {u n : Nat} (h : num l = some (u, n)) : zu u = l.take n := by
  have := (numGo_canon l 0 0 u n h (by simp [hi_zero])).1
  simpa [hi_zero] using this
end Go.Zig
