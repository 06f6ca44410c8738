/- The contracts of zig's folding of numbers, and of the document's. -/
import Derived.Test.YtdfdohajjgjbdaaCodesZ
import Derived.Test.YtdfdohajjgjbdaaBits
import Derived.Test.YtdfdohajjgjbdaaMem
set_option linter.unusedSimpArgs false
namespace Go.Proofs.Ytdfdohajjgjbdaa
open Go.Vc

def I64 (n : Int) : Prop := -9223372036854775808 ≤ n ∧ n ≤ 9223372036854775807
def U64 (n : Int) : Prop := 0 ≤ n ∧ n ≤ 18446744073709551615
def foldI (n : Int) : Int := if 0 ≤ n then 2 * n else -2 * n - 1
def unfoldI (u : Int) : Int := if u % 2 = 0 then u / 2 else -(u / 2) - 1
theorem foldI_u64 {n : Int} (h : I64 n) : U64 (foldI n) := by unfold foldI; unfold I64 at h; unfold U64; split <;> omega
theorem unfoldI_i64 {n : Int} (h : U64 n) : I64 (unfoldI n) := by unfold unfoldI; unfold U64 at h; unfold I64; split <;> omega
theorem unfold_fold (n : Int) : unfoldI (foldI n) = n := by unfold foldI unfoldI; split <;> split <;> omega
theorem fold_unfold {u : Int} (h : 0 ≤ u) : foldI (unfoldI u) = u := by unfold foldI unfoldI; split <;> split <;> omega

theorem zFold_c (n : Int) (w : World) (h : I64 n) : FnC Try.prog 63 #[.int .i64 n] w fun v w' => v = .int .u64 (foldI n) ∧ w' = w := by
  unfold I64 at h
  refine enter63 _ ?_
  unfold B63
  simp (disch := omega) only [push_cast, ↓reduceIte, Nat.reduceEqDiff, Int.reduceToNat, Nat.reducePow, Int.reducePow, Int.reduceNeg, Nat.reduceMul, Int.reduceMul, Int.reduceAdd, Int.reduceSub, Nat.reduceAdd, Nat.reduceSub, Nat.reduceLeDiff, Int.reduceLT, Int.reduceLE, Int.reduceEq, Int.reduceMod, Int.reduceDiv, reduceCtorEq, not_true_eq_false, not_false_eq_true]
  unfold foldI
  by_cases h0 : 0 ≤ n
  · have e1 : n / 9223372036854775808 = 0 := by omega
    have e2 : IntKind.u64.wrap n = n := wrap_u64 (by omega)
    have e3 : IntKind.u64.wrap (n * 2) = n * 2 := wrap_u64 (by omega)
    have e4 : IntKind.u64.wrap 0 = 0 := rfl
    rw [e1, e2, e3, e4, xor_u64_zero _ (by omega), if_pos h0]
    congr 1; omega
  · have e1 : n / 9223372036854775808 = -1 := by omega
    have e2 : IntKind.u64.wrap n = n + 18446744073709551616 := by rw [IntKind.wrap_u64]; omega
    have e3 : IntKind.u64.wrap ((n + 18446744073709551616) * 2) = n * 2 + 18446744073709551616 := by rw [IntKind.wrap_u64]; omega
    have e4 : IntKind.u64.wrap (-1) = 18446744073709551615 := rfl
    rw [e1, e2, e3, e4, xor_u64_ones _ (by omega), if_neg h0]
    congr 1; omega
theorem zUnfold_c (u : Int) (w : World) (h : U64 u) : FnC Try.prog 78 #[.int .u64 u] w fun v w' => v = .int .i64 (unfoldI u) ∧ w' = w := by
  unfold U64 at h
  refine enter78 _ ?_
  unfold B78
  simp (disch := omega) only [push_cast, ↓reduceIte, Nat.reduceEqDiff, Int.reduceToNat, Nat.reducePow, Int.reducePow, Int.reduceNeg, Nat.reduceMul, Int.reduceMul, Int.reduceAdd, Int.reduceSub, Nat.reduceAdd, Nat.reduceSub, Nat.reduceLeDiff, Int.reduceLT, Int.reduceLE, Int.reduceEq, Int.reduceMod, Int.reduceDiv, reduceCtorEq, not_true_eq_false, not_false_eq_true]
  obtain ⟨m, rfl⟩ := Int.eq_ofNat_of_zero_le h.1
  have e1 : bitI .and .u64 (m : Int) 1 = ((m % 2 : Nat) : Int) := by
    have := bit_u64_and m 1 (by omega)
    rw [Nat.and_one_is_mod] at this; exact this
  have e2 : IntKind.i64.wrap ((m % 2 : Nat) : Int) = ((m % 2 : Nat) : Int) := wrap_i64 (by omega)
  have e3 : IntKind.i64.wrap (0 - ((m % 2 : Nat) : Int)) = 0 - ((m % 2 : Nat) : Int) := wrap_i64 (by omega)
  rw [e1, e2, e3]
  unfold unfoldI
  by_cases h0 : m % 2 = 0
  · have : (0 : Int) - ((m % 2 : Nat) : Int) = 0 := by omega
    rw [this, xor_i64_zero _ (by omega), if_pos (by omega)]
  · have : (0 : Int) - ((m % 2 : Nat) : Int) = -1 := by omega
    rw [this, xor_i64_ones _ (by omega), if_neg (by omega)]
theorem rFold_c (n : Int) (w : World) (h : I64 n) : FnC Try.prog 69 #[.int .i64 n] w fun v w' => v = .int .u64 (foldI n) ∧ w' = w := by
  unfold I64 at h
  refine enter69 _ ?_
  unfold B69
  simp (disch := omega) only [push_cast, ↓reduceIte, Nat.reduceEqDiff, Int.reduceToNat, Nat.reducePow, Int.reducePow, Int.reduceNeg, Nat.reduceMul, Int.reduceMul, Int.reduceAdd, Int.reduceSub, Nat.reduceAdd, Nat.reduceSub, Nat.reduceLeDiff, Int.reduceLT, Int.reduceLE, Int.reduceEq, Int.reduceMod, Int.reduceDiv, reduceCtorEq, not_true_eq_false, not_false_eq_true]
  unfold foldI
  first | refine vIfD_of (fun h0 => ?_) (fun h0 => ?_) | refine vIfE_of (fun h0 => ?_) (fun h0 => ?_) | refine vIfQ_of (fun h0 => ?_) (fun h0 => ?_) | refine vIfV_of (fun h0 => ?_) (fun h0 => ?_)
  · simp (disch := omega) only [push_cast, ↓reduceIte, Nat.reduceEqDiff, Int.reduceToNat, Nat.reducePow, Int.reducePow, Int.reduceNeg, Nat.reduceMul, Int.reduceMul, Int.reduceAdd, Int.reduceSub, Nat.reduceAdd, Nat.reduceSub, Nat.reduceLeDiff, Int.reduceLT, Int.reduceLE, Int.reduceEq, Int.reduceMod, Int.reduceDiv, reduceCtorEq, not_true_eq_false, not_false_eq_true]
    rw [if_pos h0]
  · simp (disch := omega) only [push_cast, ↓reduceIte, Nat.reduceEqDiff, Int.reduceToNat, Nat.reducePow, Int.reducePow, Int.reduceNeg, Nat.reduceMul, Int.reduceMul, Int.reduceAdd, Int.reduceSub, Nat.reduceAdd, Nat.reduceSub, Nat.reduceLeDiff, Int.reduceLT, Int.reduceLE, Int.reduceEq, Int.reduceMod, Int.reduceDiv, reduceCtorEq, not_true_eq_false, not_false_eq_true]
    rw [if_neg h0]; congr 1; omega
theorem rUnfold_c (u : Int) (w : World) (h : U64 u) : FnC Try.prog 80 #[.int .u64 u] w fun v w' => v = .int .i64 (unfoldI u) ∧ w' = w := by
  unfold U64 at h
  refine enter80 _ ?_
  unfold B80
  simp (disch := omega) only [push_cast, ↓reduceIte, Nat.reduceEqDiff, Int.reduceToNat, Nat.reducePow, Int.reducePow, Int.reduceNeg, Nat.reduceMul, Int.reduceMul, Int.reduceAdd, Int.reduceSub, Nat.reduceAdd, Nat.reduceSub, Nat.reduceLeDiff, Int.reduceLT, Int.reduceLE, Int.reduceEq, Int.reduceMod, Int.reduceDiv, reduceCtorEq, not_true_eq_false, not_false_eq_true]
  unfold unfoldI
  first | refine vIfD_of (fun h0 => ?_) (fun h0 => ?_) | refine vIfE_of (fun h0 => ?_) (fun h0 => ?_) | refine vIfQ_of (fun h0 => ?_) (fun h0 => ?_) | refine vIfV_of (fun h0 => ?_) (fun h0 => ?_)
  · simp (disch := omega) only [push_cast, ↓reduceIte, Nat.reduceEqDiff, Int.reduceToNat, Nat.reducePow, Int.reducePow, Int.reduceNeg, Nat.reduceMul, Int.reduceMul, Int.reduceAdd, Int.reduceSub, Nat.reduceAdd, Nat.reduceSub, Nat.reduceLeDiff, Int.reduceLT, Int.reduceLE, Int.reduceEq, Int.reduceMod, Int.reduceDiv, reduceCtorEq, not_true_eq_false, not_false_eq_true]
    rw [if_pos h0]
  · simp (disch := omega) only [push_cast, ↓reduceIte, Nat.reduceEqDiff, Int.reduceToNat, Nat.reducePow, Int.reducePow, Int.reduceNeg, Nat.reduceMul, Int.reduceMul, Int.reduceAdd, Int.reduceSub, Nat.reduceAdd, Nat.reduceSub, Nat.reduceLeDiff, Int.reduceLT, Int.reduceLE, Int.reduceEq, Int.reduceMod, Int.reduceDiv, reduceCtorEq, not_true_eq_false, not_false_eq_true]
    rw [if_neg h0]; congr 1; omega
end Go.Proofs.Ytdfdohajjgjbdaa
