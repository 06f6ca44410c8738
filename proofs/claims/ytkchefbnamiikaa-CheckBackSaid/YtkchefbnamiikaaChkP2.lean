/- The plain law of blocks: what bytes begin with, one behind the other. -/
import Derived.Test.YtkchefbnamiikaaChkP
import Derived.Test.YtkchefbnamiikaaZigP3
import Derived.Test.YtkchefbnamiikaaZig5
namespace Go.Proofs.Ytkchefbnamiikaa
open Go.Zig Go.Chk
def blkB (b : List UInt8) : List UInt8 := zi b.length ++ b ++ four (sum (zi b.length ++ b))
theorem blkB_len (b : List UInt8) : (blkB b).length = (zi b.length).length + b.length + 4 := by simp [blkB, four_len]; omega
/-- The block that bytes begin with. -/
def fst (b : List UInt8) : Option (List UInt8 × Nat) := match num b with
  | none => none
  | some (u, k) =>
    if unfoldI u < 0 ∨ 16777216 < unfoldI u then none
    else if b.length < k + (unfoldI u).toNat + 4 then none
    else if (b.drop (k + (unfoldI u).toNat)).take 4 = four (sum (b.take (k + (unfoldI u).toNat))) then some ((b.drop k).take (unfoldI u).toNat, k + (unfoldI u).toNat + 4) else none
theorem fst_some {b : List UInt8} {p : List UInt8 × Nat} (h : fst b = some p) : 5 ≤ p.2 ∧ p.2 ≤ b.length ∧ p.1.length + 5 ≤ b.length := by
  unfold fst at h
  split at h
  · cases h
  rename_i u k hn
  have := num_some hn
  split at h
  · cases h
  split at h
  · cases h
  split at h
  · simp only [Option.some.injEq] at h
    subst h
    refine ⟨by dsimp only; omega, by dsimp only; omega, ?_⟩
    simp; omega
  · cases h
theorem zi_num {n : Int} (h : I64 n) (r : List UInt8) : num (zi n ++ r) = some ((foldI n).toNat, (zi n).length) := by
  have := foldI_u64 h
  unfold U64 at this
  exact num_zu (by omega) r
theorem unfold_zi {n : Int} (h : I64 n) : unfoldI ((foldI n).toNat : Int) = n := by
  have := foldI_u64 h
  unfold U64 at this
  have e : (((foldI n).toNat : Nat) : Int) = foldI n := by omega
  rw [e, unfold_fold]
/-- What begins with a block's length. -/
theorem fst_zi {n : Nat} (hn : n ≤ 16777216) (r : List UInt8) : fst (zi n ++ r) = if r.length < n + 4 then none else if (r.drop n).take 4 = four (sum (zi n ++ r.take n)) then some (r.take n, (zi n).length + n + 4) else none := by
  have h64 : I64 (n : Int) := by unfold I64; omega
  unfold fst
  rw [zi_num h64]
  simp only [unfold_zi h64]
  rw [if_neg (by omega)]
  simp only [Int.toNat_natCast]
  have e1 : (zi n ++ r).drop ((zi n).length + n) = r.drop n := by rw [← List.drop_drop, List.drop_left]
  have e2 : (zi n ++ r).take ((zi n).length + n) = zi n ++ r.take n := by rw [List.take_length_add_append]
  rw [e1, e2, List.drop_left, List.length_append]
  by_cases h : r.length < n + 4
  · rw [if_pos h, if_pos (by omega)]
  · rw [if_neg h, if_neg (by omega)]
theorem fst_blk {b : List UInt8} (hb : b.length ≤ 16777216) (r : List UInt8) : fst (blkB b ++ r) = some (b, (blkB b).length) := by
  have e : blkB b ++ r = zi b.length ++ (b ++ (four (sum (zi b.length ++ b)) ++ r)) := by simp [blkB]
  rw [e, fst_zi hb, if_neg (by simp [four_len]), List.drop_left, List.take_left, if_pos, blkB_len]
  exact List.take_left (l₁ := four (sum (zi b.length ++ b)))
theorem num_cut {u c : Nat} (hu : u < 18446744073709551616) (hc : c < (zu u).length) : num ((zu u).take c) = none := by
  cases h : num ((zu u).take c) with
  | none => rfl
  | some p =>
    obtain ⟨v, n⟩ := p
    exfalso
    have h1 := num_some h
    have h2 := num_canon h
    have hn : n ≤ c := by have := h1.2.2.1; simp at this; omega
    rw [List.take_take, Nat.min_eq_left hn] at h2
    have hl : (zu v).length = n := by rw [h2]; simp; omega
    have := zu_prefix (u := u) (v := v) hu h1.1 (by rw [Nat.min_eq_right (by omega), hl, ← h2, ← hl, List.take_length])
    subst this
    omega
/-- A block that is cut is none. -/
theorem fst_cut {b : List UInt8} (hb : b.length ≤ 16777216) {c : Nat} (hc : c < (blkB b).length) : fst ((blkB b).take c) = none := by
  have h64 : I64 (b.length : Int) := by unfold I64; omega
  have e : blkB b = zi b.length ++ (b ++ four (sum (zi b.length ++ b))) := by simp [blkB]
  have hbl := blkB_len b
  by_cases h : c < (zi b.length).length
  · have hf := foldI_u64 h64
    unfold U64 at hf
    unfold fst
    rw [e, List.take_append_of_le_length (by omega)]
    have : num ((zi b.length).take c) = none := num_cut (by omega) h
    rw [this]
  · have e2 : (blkB b).take c = zi b.length ++ (b ++ four (sum (zi b.length ++ b))).take (c - (zi b.length).length) := by
      rw [e, List.take_append, List.take_of_length_le (by omega)]
    rw [e2, fst_zi hb, if_pos]
    simp [four_len]; omega
theorem fst_bad {b b' : List UInt8} (hb : b.length ≤ 16777216) (hl : b'.length = b.length) (hs : sum (zi b.length ++ b') ≠ sum (zi b.length ++ b)) : fst (zi b.length ++ b' ++ four (sum (zi b.length ++ b))) = none := by
  rw [List.append_assoc, fst_zi hb, if_neg (by simp [four_len]; omega)]
  rw [← hl, List.drop_left, List.take_left, hl]
  rw [if_neg]
  intro h
  have h := h
  rw [List.take_of_length_le (by simp [four_len])] at h
  exact hs (four_inj (sum_lt _) (sum_lt _) h).symm
theorem bits_append (a f : List UInt8) : Nib.toN (Nib.bitsB (a ++ f)) % 2 ^ (a.length * 8) = Nib.toN (Nib.bitsB a) := by
  have e : Nib.bitsB (a ++ f) = Nib.bitsB a ++ Nib.bitsB f := by simp [Nib.bitsB]
  have h := Nib.toN_lt (Nib.bitsB a)
  rw [Nib.bitsB_len] at h
  rw [e, Nib.toN_append, Nib.bitsB_len, Nat.add_mul_mod_self_left, Nat.mod_eq_of_lt h]
/-- A block of whose bytes a burst of bits is turned is none. -/
theorem fst_turned {b q : List UInt8} {K W : Nat} (hb : b.length ≤ 16777216) (hl : q.length = (blkB b).length) (h1 : q.take (zi b.length).length = zi b.length) (h2 : q.drop ((zi b.length).length + b.length) = four (sum (zi b.length ++ b)))
    (hK : K + 32 ≤ ((zi b.length).length + b.length) * 8) (hW : W < 4294967296) (hW0 : W ≠ 0) (h : Nib.toN (Nib.bitsB q) = Nib.toN (Nib.bitsB (blkB b)) ^^^ 2 ^ K * W) : fst q = none := by
  have hbl := blkB_len b
  have hb' : ((q.drop (zi b.length).length).take b.length).length = b.length := by simp; omega
  have hq : q = zi b.length ++ (q.drop (zi b.length).length).take b.length ++ four (sum (zi b.length ++ b)) := by
    have e1 : q = q.take (zi b.length).length ++ ((q.drop (zi b.length).length).take b.length ++ (q.drop (zi b.length).length).drop b.length) := by
      rw [List.take_append_drop, List.take_append_drop]
    rw [List.drop_drop, h2, h1] at e1
    rw [List.append_assoc]; exact e1
  have hs : sum (zi b.length ++ (q.drop (zi b.length).length).take b.length) ≠ sum (zi b.length ++ b) := by
    refine burst (k := K) (w := W) (by rw [List.length_append, List.length_append, hb']) (by rw [List.length_append]; exact hK) hW hW0 ?_
    have m1 := bits_append (zi b.length ++ (q.drop (zi b.length).length).take b.length) (four (sum (zi b.length ++ b)))
    have m2 := bits_append (zi b.length ++ b) (four (sum (zi b.length ++ b)))
    rw [← hq, List.length_append, hb'] at m1
    rw [List.length_append] at m2
    rw [← m1, ← m2, h, Nat.xor_mod_two_pow]
    congr 1
    refine Nat.mod_eq_of_lt ?_
    calc 2 ^ K * W < 2 ^ K * 2 ^ 32 := Nat.mul_lt_mul_of_pos_left hW (Nat.two_pow_pos K)
      _ = 2 ^ (K + 32) := (Nat.pow_add 2 K 32).symm
      _ ≤ _ := Nat.pow_le_pow_right (by omega) hK
  rw [hq]
  exact fst_bad hb hb' hs
/-- The document's way: the whole block is made anew. -/
theorem fst_ref {b : List UInt8} {u k : Nat} (h : num b = some (u, k)) (h0 : 0 ≤ unfoldI u) (h1 : unfoldI u ≤ 16777216) (hl : k + (unfoldI u).toNat + 4 ≤ b.length) :
    (blkB ((b.drop k).take (unfoldI u).toNat)).length = k + (unfoldI u).toNat + 4 ∧
    fst b = if blkB ((b.drop k).take (unfoldI u).toNat) = b.take (k + (unfoldI u).toNat + 4) then some ((b.drop k).take (unfoldI u).toNat, k + (unfoldI u).toNat + 4) else none := by
  obtain ⟨n, hn⟩ := Int.eq_ofNat_of_zero_le h0
  rw [hn] at h1 hl ⊢
  simp only [Int.toNat_natCast] at hl ⊢
  have hk := num_some h
  have hc := num_canon h
  have hu : (foldI (n : Int)).toNat = u := by rw [← hn, fold_unfold (by omega)]; omega
  have hz : zi (n : Int) = b.take k := by unfold zi; rw [hu, hc]
  have hzl : (zi (n : Int)).length = k := by rw [hz]; simp; omega
  have hxl : ((b.drop k).take n).length = n := by simp; omega
  have hb : b = zi n ++ b.drop k := by rw [hz, List.take_append_drop]
  have hlen : (blkB ((b.drop k).take n)).length = k + n + 4 := by rw [blkB_len, hxl, hzl]
  refine ⟨hlen, ?_⟩
  conv => lhs; rw [hb]
  rw [fst_zi (by omega), if_neg (by simp; omega), hzl]
  have e1 : zi n ++ (b.drop k).take n = b.take (k + n) := by
    rw [hz, List.take_add]
  have hiff : (((b.drop k).drop n).take 4 = four (sum (zi n ++ (b.drop k).take n))) ↔ (blkB ((b.drop k).take n) = b.take (k + n + 4)) := by
    have e2 : blkB ((b.drop k).take n) = b.take (k + n) ++ four (sum (b.take (k + n))) := by unfold blkB; rw [hxl, e1]
    rw [e2, e1, List.take_add (i := k + n), List.drop_drop]
    constructor
    · intro h; rw [h]
    · intro h; exact (List.append_cancel_left h).symm
  by_cases hp : ((b.drop k).drop n).take 4 = four (sum (zi n ++ (b.drop k).take n))
  · rw [if_pos hp, if_pos (hiff.1 hp)]
  · rw [if_neg hp, if_neg (fun h => hp (hiff.2 h))]
/-- All blocks that bytes begin with. -/
def blks (b : List UInt8) : List (List UInt8) × Nat :=
  match h : fst b with
  | none => ([], 0)
  | some p => (p.1 :: (blks (b.drop p.2)).1, p.2 + (blks (b.drop p.2)).2)
termination_by b.length
decreasing_by all_goals (have := fst_some h; simp; omega)
theorem blks_none {b : List UInt8} (h : fst b = none) : blks b = ([], 0) := by
  rw [blks]; split
  · rfl
  · rename_i p hp; rw [h] at hp; cases hp
theorem blks_some {b : List UInt8} {p : List UInt8 × Nat} (h : fst b = some p) : blks b = (p.1 :: (blks (b.drop p.2)).1, p.2 + (blks (b.drop p.2)).2) := by
  rw [blks]; split
  · rename_i hp; rw [h] at hp; cases hp
  · rename_i q hq
    rw [h] at hq
    simp only [Option.some.injEq] at hq
    subst hq; rfl
theorem blks_le (n : Nat) : ∀ b : List UInt8, b.length = n → (blks b).2 ≤ b.length := by
  induction n using Nat.strongRecOn with
  | ind n ih =>
    intro b hn
    cases h : fst b with
    | none => rw [blks_none h]; exact Nat.zero_le _
    | some p =>
      have hp := fst_some h
      rw [blks_some h]
      have := ih (b.drop p.2).length (by simp; omega) _ rfl
      simp at this ⊢; omega
/-- The bytes of blocks, one behind the other. -/
def cat (ls : List (List UInt8)) : List UInt8 := ls.flatMap blkB
theorem cat_snoc (ls : List (List UInt8)) (x : List UInt8) : cat (ls ++ [x]) = cat ls ++ blkB x := by simp [cat]
theorem blks_cat (ls : List (List UInt8)) (r : List UInt8) (h : ∀ x ∈ ls, x.length ≤ 16777216) : blks (cat ls ++ r) = (ls ++ (blks r).1, (cat ls).length + (blks r).2) := by
  induction ls with
  | nil => simp [cat]
  | cons x ls ih =>
    have e : cat (x :: ls) ++ r = blkB x ++ (cat ls ++ r) := by simp [cat]
    have hf := fst_blk (h x (by simp)) (cat ls ++ r)
    rw [e, blks_some hf, List.drop_left, ih (fun y hy => h y (by simp [hy]))]
    have : (cat (x :: ls)).length = (blkB x).length + (cat ls).length := by simp [cat]
    rw [this]
    simp only [List.cons_append, Prod.mk.injEq, true_and]
    omega
theorem blks_nil : blks [] = ([], 0) := blks_none (by decide)
end Go.Proofs.Ytkchefbnamiikaa
