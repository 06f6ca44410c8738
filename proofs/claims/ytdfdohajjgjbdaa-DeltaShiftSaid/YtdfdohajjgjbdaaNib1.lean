/- The contracts of nibble's small functions, and of the document's. -/
import Derived.Test.YtdfdohajjgjbdaaCodesN
import Derived.Test.YtdfdohajjgjbdaaNibP
import Derived.Test.YtdfdohajjgjbdaaMem4
set_option linter.unusedSimpArgs false
namespace Go.Proofs.Ytdfdohajjgjbdaa
open Go.Vc Go.Nib

/-- The table of Go's bits. -/
def tab8 : ByteArray := ⟨#[0, 1, 2, 2, 3, 3, 3, 3, 4, 4, 4, 4, 4, 4, 4, 4, 5, 5, 5, 5, 5, 5, 5, 5, 5, 5, 5, 5, 5, 5, 5, 5, 6, 6, 6, 6, 6, 6, 6, 6, 6, 6, 6, 6, 6, 6, 6, 6, 6, 6, 6, 6, 6, 6, 6, 6, 6, 6, 6, 6, 6, 6, 6, 6, 7, 7, 7, 7, 7, 7, 7, 7, 7, 7, 7, 7, 7, 7, 7, 7, 7, 7, 7, 7, 7, 7, 7, 7, 7, 7, 7, 7, 7, 7, 7, 7, 7, 7, 7, 7, 7, 7, 7, 7, 7, 7, 7, 7, 7, 7, 7, 7, 7, 7, 7, 7, 7, 7, 7, 7, 7, 7, 7, 7, 7, 7, 7, 7, 8, 8, 8, 8, 8, 8, 8, 8, 8, 8, 8, 8, 8, 8, 8, 8, 8, 8, 8, 8, 8, 8, 8, 8, 8, 8, 8, 8, 8, 8, 8, 8, 8, 8, 8, 8, 8, 8, 8, 8, 8, 8, 8, 8, 8, 8, 8, 8, 8, 8, 8, 8, 8, 8, 8, 8, 8, 8, 8, 8, 8, 8, 8, 8, 8, 8, 8, 8, 8, 8, 8, 8, 8, 8, 8, 8, 8, 8, 8, 8, 8, 8, 8, 8, 8, 8, 8, 8, 8, 8, 8, 8, 8, 8, 8, 8, 8, 8, 8, 8, 8, 8, 8, 8, 8, 8, 8, 8, 8, 8, 8, 8, 8, 8, 8, 8, 8, 8, 8, 8, 8, 8, 8, 8, 8, 8, 8, 8]⟩
theorem tab8_get : ∀ c : Fin 256, tab8[c.val]? = some (UInt8.ofNat (bl c.val)) := by decide +kernel
theorem tab8_at (x : Nat) (h : x < 256) : tab8[((x : Nat) : Int).toNat]? = some (UInt8.ofNat (bl x)) := tab8_get ⟨x, h⟩
theorem vElemB_of {s : ByteArray} {i : Nat} {b : UInt8} {K : Value → World → Prop} {w : World} (h : s[i]? = some b) (hk : K (.int .u8 b.toNat) w) : vElemB s[i]? K w := by rw [h]; exact hk
theorem bl_small {x : Nat} (h : x < 256) : ((UInt8.ofNat (bl x)).toNat : Int) = bl x := by
  have : bl x ≤ 8 := bl_le.2 h
  have e : (UInt8.ofNat (bl x)).toNat = bl x := by rw [UInt8.toNat_ofNat']; exact Nat.mod_eq_of_lt (by omega)
  rw [e]
theorem tab8_int {y : Int} {m : Nat} (e : y = m) (h : m < 256) : tab8[y.toNat]? = some (UInt8.ofNat (bl m)) := by subst e; exact tab8_get ⟨m, h⟩
theorem tab8_nat {m : Nat} (h : m < 256) : tab8[m]? = some (UInt8.ofNat (bl m)) := tab8_get ⟨m, h⟩
set_option maxRecDepth 100000 in
theorem len64_c (x : Nat) (w : World) (h : x < 18446744073709551616) : FnC Try.prog 66 #[.int .u64 x] w fun v w' => v = .int .i64 (bl x) ∧ w' = w := by
  refine enter66 _ ?_
  unfold B66
  repeat' (first | (simp (disch := omega) only [push_cast, ↓reduceIte, Nat.reduceEqDiff, Int.reduceToNat, Nat.reducePow, Int.reducePow, Int.reduceNeg, Nat.reduceMul, Int.reduceMul, Int.reduceAdd, Int.reduceSub, Nat.reduceAdd, Nat.reduceSub, Nat.reduceLeDiff, Int.reduceLT, Int.reduceLE, Int.reduceEq, Int.reduceMod, Int.reduceDiv, reduceCtorEq, not_true_eq_false, not_false_eq_true]) | refine vIfE_of (fun _ => ?_) (fun _ => ?_) | refine vIfD_of (fun _ => ?_) (fun _ => ?_) | refine vIfQ_of (fun _ => ?_) (fun _ => ?_) | refine vIfV_of (fun _ => ?_) (fun _ => ?_) | refine And.intro (by omega) ?_ | refine drawn_q ?_ | fail)
  · refine vElemB_of (tab8_int (m := x / 4294967296 / 65536 / 256) (by omega) (by omega)) ?_
    rw [bl_small (by omega)]
    have h8 : bl (x / 4294967296 / 65536 / 256) ≤ 8 := bl_le.2 (by omega)
    have hs := bl_shift (x := x) 56 (by omega)
    have es : x / 2 ^ 56 = x / 4294967296 / 65536 / 256 := by omega
    rw [es] at hs
    repeat' (first | (simp (disch := omega) only [push_cast, ↓reduceIte, Nat.reduceEqDiff, Int.reduceToNat, Nat.reducePow, Int.reducePow, Int.reduceNeg, Nat.reduceMul, Int.reduceMul, Int.reduceAdd, Int.reduceSub, Nat.reduceAdd, Nat.reduceSub, Nat.reduceLeDiff, Int.reduceLT, Int.reduceLE, Int.reduceEq, Int.reduceMod, Int.reduceDiv, reduceCtorEq, not_true_eq_false, not_false_eq_true]) | refine vIfE_of (fun _ => ?_) (fun _ => ?_) | refine vIfD_of (fun _ => ?_) (fun _ => ?_) | refine vIfQ_of (fun _ => ?_) (fun _ => ?_) | refine vIfV_of (fun _ => ?_) (fun _ => ?_) | refine And.intro (by omega) ?_ | refine drawn_q ?_ | fail)
    rw [hs]; congr 1
  · refine vElemB_of (tab8_int (m := x / 4294967296 / 65536) (by omega) (by omega)) ?_
    rw [bl_small (by omega)]
    have h8 : bl (x / 4294967296 / 65536) ≤ 8 := bl_le.2 (by omega)
    have hs := bl_shift (x := x) 48 (by omega)
    have es : x / 2 ^ 48 = x / 4294967296 / 65536 := by omega
    rw [es] at hs
    repeat' (first | (simp (disch := omega) only [push_cast, ↓reduceIte, Nat.reduceEqDiff, Int.reduceToNat, Nat.reducePow, Int.reducePow, Int.reduceNeg, Nat.reduceMul, Int.reduceMul, Int.reduceAdd, Int.reduceSub, Nat.reduceAdd, Nat.reduceSub, Nat.reduceLeDiff, Int.reduceLT, Int.reduceLE, Int.reduceEq, Int.reduceMod, Int.reduceDiv, reduceCtorEq, not_true_eq_false, not_false_eq_true]) | refine vIfE_of (fun _ => ?_) (fun _ => ?_) | refine vIfD_of (fun _ => ?_) (fun _ => ?_) | refine vIfQ_of (fun _ => ?_) (fun _ => ?_) | refine vIfV_of (fun _ => ?_) (fun _ => ?_) | refine And.intro (by omega) ?_ | refine drawn_q ?_ | fail)
    rw [hs]; congr 1
  · refine vElemB_of (tab8_int (m := x / 4294967296 / 256) (by omega) (by omega)) ?_
    rw [bl_small (by omega)]
    have h8 : bl (x / 4294967296 / 256) ≤ 8 := bl_le.2 (by omega)
    have hs := bl_shift (x := x) 40 (by omega)
    have es : x / 2 ^ 40 = x / 4294967296 / 256 := by omega
    rw [es] at hs
    repeat' (first | (simp (disch := omega) only [push_cast, ↓reduceIte, Nat.reduceEqDiff, Int.reduceToNat, Nat.reducePow, Int.reducePow, Int.reduceNeg, Nat.reduceMul, Int.reduceMul, Int.reduceAdd, Int.reduceSub, Nat.reduceAdd, Nat.reduceSub, Nat.reduceLeDiff, Int.reduceLT, Int.reduceLE, Int.reduceEq, Int.reduceMod, Int.reduceDiv, reduceCtorEq, not_true_eq_false, not_false_eq_true]) | refine vIfE_of (fun _ => ?_) (fun _ => ?_) | refine vIfD_of (fun _ => ?_) (fun _ => ?_) | refine vIfQ_of (fun _ => ?_) (fun _ => ?_) | refine vIfV_of (fun _ => ?_) (fun _ => ?_) | refine And.intro (by omega) ?_ | refine drawn_q ?_ | fail)
    rw [hs]; congr 1
  · refine vElemB_of (tab8_int (m := x / 4294967296) (by omega) (by omega)) ?_
    rw [bl_small (by omega)]
    have h8 : bl (x / 4294967296) ≤ 8 := bl_le.2 (by omega)
    have hs := bl_shift (x := x) 32 (by omega)
    have es : x / 2 ^ 32 = x / 4294967296 := by omega
    rw [es] at hs
    repeat' (first | (simp (disch := omega) only [push_cast, ↓reduceIte, Nat.reduceEqDiff, Int.reduceToNat, Nat.reducePow, Int.reducePow, Int.reduceNeg, Nat.reduceMul, Int.reduceMul, Int.reduceAdd, Int.reduceSub, Nat.reduceAdd, Nat.reduceSub, Nat.reduceLeDiff, Int.reduceLT, Int.reduceLE, Int.reduceEq, Int.reduceMod, Int.reduceDiv, reduceCtorEq, not_true_eq_false, not_false_eq_true]) | refine vIfE_of (fun _ => ?_) (fun _ => ?_) | refine vIfD_of (fun _ => ?_) (fun _ => ?_) | refine vIfQ_of (fun _ => ?_) (fun _ => ?_) | refine vIfV_of (fun _ => ?_) (fun _ => ?_) | refine And.intro (by omega) ?_ | refine drawn_q ?_ | fail)
    rw [hs]; congr 1
  · refine vElemB_of (tab8_int (m := x / 65536 / 256) (by omega) (by omega)) ?_
    rw [bl_small (by omega)]
    have h8 : bl (x / 65536 / 256) ≤ 8 := bl_le.2 (by omega)
    have hs := bl_shift (x := x) 24 (by omega)
    have es : x / 2 ^ 24 = x / 65536 / 256 := by omega
    rw [es] at hs
    repeat' (first | (simp (disch := omega) only [push_cast, ↓reduceIte, Nat.reduceEqDiff, Int.reduceToNat, Nat.reducePow, Int.reducePow, Int.reduceNeg, Nat.reduceMul, Int.reduceMul, Int.reduceAdd, Int.reduceSub, Nat.reduceAdd, Nat.reduceSub, Nat.reduceLeDiff, Int.reduceLT, Int.reduceLE, Int.reduceEq, Int.reduceMod, Int.reduceDiv, reduceCtorEq, not_true_eq_false, not_false_eq_true]) | refine vIfE_of (fun _ => ?_) (fun _ => ?_) | refine vIfD_of (fun _ => ?_) (fun _ => ?_) | refine vIfQ_of (fun _ => ?_) (fun _ => ?_) | refine vIfV_of (fun _ => ?_) (fun _ => ?_) | refine And.intro (by omega) ?_ | refine drawn_q ?_ | fail)
    rw [hs]; congr 1
  · refine vElemB_of (tab8_int (m := x / 65536) (by omega) (by omega)) ?_
    rw [bl_small (by omega)]
    have h8 : bl (x / 65536) ≤ 8 := bl_le.2 (by omega)
    have hs := bl_shift (x := x) 16 (by omega)
    have es : x / 2 ^ 16 = x / 65536 := by omega
    rw [es] at hs
    repeat' (first | (simp (disch := omega) only [push_cast, ↓reduceIte, Nat.reduceEqDiff, Int.reduceToNat, Nat.reducePow, Int.reducePow, Int.reduceNeg, Nat.reduceMul, Int.reduceMul, Int.reduceAdd, Int.reduceSub, Nat.reduceAdd, Nat.reduceSub, Nat.reduceLeDiff, Int.reduceLT, Int.reduceLE, Int.reduceEq, Int.reduceMod, Int.reduceDiv, reduceCtorEq, not_true_eq_false, not_false_eq_true]) | refine vIfE_of (fun _ => ?_) (fun _ => ?_) | refine vIfD_of (fun _ => ?_) (fun _ => ?_) | refine vIfQ_of (fun _ => ?_) (fun _ => ?_) | refine vIfV_of (fun _ => ?_) (fun _ => ?_) | refine And.intro (by omega) ?_ | refine drawn_q ?_ | fail)
    rw [hs]; congr 1
  · refine vElemB_of (tab8_int (m := x / 256) (by omega) (by omega)) ?_
    rw [bl_small (by omega)]
    have h8 : bl (x / 256) ≤ 8 := bl_le.2 (by omega)
    have hs := bl_shift (x := x) 8 (by omega)
    have es : x / 2 ^ 8 = x / 256 := by omega
    rw [es] at hs
    repeat' (first | (simp (disch := omega) only [push_cast, ↓reduceIte, Nat.reduceEqDiff, Int.reduceToNat, Nat.reducePow, Int.reducePow, Int.reduceNeg, Nat.reduceMul, Int.reduceMul, Int.reduceAdd, Int.reduceSub, Nat.reduceAdd, Nat.reduceSub, Nat.reduceLeDiff, Int.reduceLT, Int.reduceLE, Int.reduceEq, Int.reduceMod, Int.reduceDiv, reduceCtorEq, not_true_eq_false, not_false_eq_true]) | refine vIfE_of (fun _ => ?_) (fun _ => ?_) | refine vIfD_of (fun _ => ?_) (fun _ => ?_) | refine vIfQ_of (fun _ => ?_) (fun _ => ?_) | refine vIfV_of (fun _ => ?_) (fun _ => ?_) | refine And.intro (by omega) ?_ | refine drawn_q ?_ | fail)
    rw [hs]; congr 1
  · refine vElemB_of (tab8_nat (by omega)) ?_
    rw [bl_small (by omega)]
    have h8 : bl (x) ≤ 8 := bl_le.2 (by omega)
    repeat' (first | (simp (disch := omega) only [push_cast, ↓reduceIte, Nat.reduceEqDiff, Int.reduceToNat, Nat.reducePow, Int.reducePow, Int.reduceNeg, Nat.reduceMul, Int.reduceMul, Int.reduceAdd, Int.reduceSub, Nat.reduceAdd, Nat.reduceSub, Nat.reduceLeDiff, Int.reduceLT, Int.reduceLE, Int.reduceEq, Int.reduceMod, Int.reduceDiv, reduceCtorEq, not_true_eq_false, not_false_eq_true]) | refine vIfE_of (fun _ => ?_) (fun _ => ?_) | refine vIfD_of (fun _ => ?_) (fun _ => ?_) | refine vIfQ_of (fun _ => ?_) (fun _ => ?_) | refine vIfV_of (fun _ => ?_) (fun _ => ?_) | refine And.intro (by omega) ?_ | refine drawn_q ?_ | fail)
/-- What Size answers. -/
def szR (n width : Int) : Int × Int := if n < 0 ∨ 65536 < n ∨ width < 0 ∨ 64 < width then (0, 1) else ((n * width + 7) / 8, 0)
def tup2i (p : Int × Int) : Value := .tuple #[.int .i64 p.1, .int .i64 p.2]
theorem size_c (n width : Int) (w : World) (h1 : -9223372036854775808 ≤ n ∧ n ≤ 9223372036854775807) (h2 : -9223372036854775808 ≤ width ∧ width ≤ 9223372036854775807) :
    FnC Try.prog 67 #[.int .i64 n, .int .i64 width] w fun v w' => v = tup2i (szR n width) ∧ w' = w := by
  refine enter67 _ _ ?_
  unfold B67 szR tup2i
  by_cases hb : n < 0 ∨ 65536 < n ∨ width < 0 ∨ 64 < width
  · rw [if_pos hb]; repeat' (first | (simp (disch := omega) only [push_cast, ↓reduceIte, Nat.reduceEqDiff, Int.reduceToNat, Nat.reducePow, Int.reducePow, Int.reduceNeg, Nat.reduceMul, Int.reduceMul, Int.reduceAdd, Int.reduceSub, Nat.reduceAdd, Nat.reduceSub, Nat.reduceLeDiff, Int.reduceLT, Int.reduceLE, Int.reduceEq, Int.reduceMod, Int.reduceDiv, reduceCtorEq, not_true_eq_false, not_false_eq_true]) | refine vIfE_of (fun _ => ?_) (fun _ => ?_) | refine vIfD_of (fun _ => ?_) (fun _ => ?_) | refine vIfQ_of (fun _ => ?_) (fun _ => ?_) | refine vIfV_of (fun _ => ?_) (fun _ => ?_) | refine And.intro (by omega) ?_ | refine drawn_q ?_ | fail)
  · rw [if_neg hb]
    have hm : 0 ≤ n * width ∧ n * width ≤ 4194304 := ⟨Int.mul_nonneg (by omega) (by omega), by
      have := Int.mul_le_mul (a := n) (b := width) (c := 65536) (d := 64) (by omega) (by omega) (by omega) (by omega)
      omega⟩
    repeat' (first | (simp (disch := omega) only [push_cast, ↓reduceIte, Nat.reduceEqDiff, Int.reduceToNat, Nat.reducePow, Int.reducePow, Int.reduceNeg, Nat.reduceMul, Int.reduceMul, Int.reduceAdd, Int.reduceSub, Nat.reduceAdd, Nat.reduceSub, Nat.reduceLeDiff, Int.reduceLT, Int.reduceLE, Int.reduceEq, Int.reduceMod, Int.reduceDiv, reduceCtorEq, not_true_eq_false, not_false_eq_true]) | refine vIfE_of (fun _ => ?_) (fun _ => ?_) | refine vIfD_of (fun _ => ?_) (fun _ => ?_) | refine vIfQ_of (fun _ => ?_) (fun _ => ?_) | refine vIfV_of (fun _ => ?_) (fun _ => ?_) | refine And.intro (by omega) ?_ | refine drawn_q ?_ | fail)
    have e : n * width + 8 - 1 = n * width + 7 := by omega
    rw [e]
theorem rSize_c (n width : Int) (w : World) (h1 : -9223372036854775808 ≤ n ∧ n ≤ 9223372036854775807) (h2 : -9223372036854775808 ≤ width ∧ width ≤ 9223372036854775807) :
    FnC Try.prog 58 #[.int .i64 n, .int .i64 width] w fun v w' => v = tup2i (szR n width) ∧ w' = w := by
  refine enter58 _ _ ?_
  unfold B58 szR tup2i
  by_cases hb : n < 0 ∨ 65536 < n ∨ width < 0 ∨ 64 < width
  · rw [if_pos hb]; repeat' (first | (simp (disch := omega) only [push_cast, ↓reduceIte, Nat.reduceEqDiff, Int.reduceToNat, Nat.reducePow, Int.reducePow, Int.reduceNeg, Nat.reduceMul, Int.reduceMul, Int.reduceAdd, Int.reduceSub, Nat.reduceAdd, Nat.reduceSub, Nat.reduceLeDiff, Int.reduceLT, Int.reduceLE, Int.reduceEq, Int.reduceMod, Int.reduceDiv, reduceCtorEq, not_true_eq_false, not_false_eq_true]) | refine vIfE_of (fun _ => ?_) (fun _ => ?_) | refine vIfD_of (fun _ => ?_) (fun _ => ?_) | refine vIfQ_of (fun _ => ?_) (fun _ => ?_) | refine vIfV_of (fun _ => ?_) (fun _ => ?_) | refine And.intro (by omega) ?_ | refine drawn_q ?_ | fail)
  · rw [if_neg hb]
    have hm : 0 ≤ n * width ∧ n * width ≤ 4194304 := ⟨Int.mul_nonneg (by omega) (by omega), by
      have := Int.mul_le_mul (a := n) (b := width) (c := 65536) (d := 64) (by omega) (by omega) (by omega) (by omega)
      omega⟩
    repeat' (first | (simp (disch := omega) only [push_cast, ↓reduceIte, Nat.reduceEqDiff, Int.reduceToNat, Nat.reducePow, Int.reducePow, Int.reduceNeg, Nat.reduceMul, Int.reduceMul, Int.reduceAdd, Int.reduceSub, Nat.reduceAdd, Nat.reduceSub, Nat.reduceLeDiff, Int.reduceLT, Int.reduceLE, Int.reduceEq, Int.reduceMod, Int.reduceDiv, reduceCtorEq, not_true_eq_false, not_false_eq_true]) | refine vIfE_of (fun _ => ?_) (fun _ => ?_) | refine vIfD_of (fun _ => ?_) (fun _ => ?_) | refine vIfQ_of (fun _ => ?_) (fun _ => ?_) | refine vIfV_of (fun _ => ?_) (fun _ => ?_) | refine And.intro (by omega) ?_ | refine drawn_q ?_ | fail)
/-- bytes.Equal. -/
theorem equal_c (x y : Value) (a b : List UInt8) (w : World) (hx : Sl w x (a.map u8v)) (hy : Sl w y (b.map u8v)) : FnC Try.prog 56 #[x, y] w fun v w' => v = .bool (decide (a = b)) ∧ w' = w := by
  obtain ⟨ox, cx, rfl⟩ := hx.slice
  obtain ⟨oy, cy, rfl⟩ := hy.slice
  refine enter56 _ _ ?_
  unfold B56
  repeat' (first | (simp (disch := omega) only [push_cast, ↓reduceIte, Nat.reduceEqDiff, Int.reduceToNat, Nat.reducePow, Int.reducePow, Int.reduceNeg, Nat.reduceMul, Int.reduceMul, Int.reduceAdd, Int.reduceSub, Nat.reduceAdd, Nat.reduceSub, Nat.reduceLeDiff, Int.reduceLT, Int.reduceLE, Int.reduceEq, Int.reduceMod, Int.reduceDiv, reduceCtorEq, not_true_eq_false, not_false_eq_true]) | refine vIfE_of (fun _ => ?_) (fun _ => ?_) | refine vIfD_of (fun _ => ?_) (fun _ => ?_) | refine vIfQ_of (fun _ => ?_) (fun _ => ?_) | refine vIfV_of (fun _ => ?_) (fun _ => ?_) | refine And.intro (by omega) ?_ | refine drawn_q ?_ | fail)
  refine vConv_bytes Try.underlying36 Try.underlying9 Try.underlying5 hx ?_
  repeat' (first | (simp (disch := omega) only [push_cast, ↓reduceIte, Nat.reduceEqDiff, Int.reduceToNat, Nat.reducePow, Int.reducePow, Int.reduceNeg, Nat.reduceMul, Int.reduceMul, Int.reduceAdd, Int.reduceSub, Nat.reduceAdd, Nat.reduceSub, Nat.reduceLeDiff, Int.reduceLT, Int.reduceLE, Int.reduceEq, Int.reduceMod, Int.reduceDiv, reduceCtorEq, not_true_eq_false, not_false_eq_true]) | refine vIfE_of (fun _ => ?_) (fun _ => ?_) | refine vIfD_of (fun _ => ?_) (fun _ => ?_) | refine vIfQ_of (fun _ => ?_) (fun _ => ?_) | refine vIfV_of (fun _ => ?_) (fun _ => ?_) | refine And.intro (by omega) ?_ | refine drawn_q ?_ | fail)
  refine vConv_bytes Try.underlying36 Try.underlying9 Try.underlying5 hy ?_
  repeat' (first | (simp (disch := omega) only [push_cast, ↓reduceIte, Nat.reduceEqDiff, Int.reduceToNat, Nat.reducePow, Int.reducePow, Int.reduceNeg, Nat.reduceMul, Int.reduceMul, Int.reduceAdd, Int.reduceSub, Nat.reduceAdd, Nat.reduceSub, Nat.reduceLeDiff, Int.reduceLT, Int.reduceLE, Int.reduceEq, Int.reduceMod, Int.reduceDiv, reduceCtorEq, not_true_eq_false, not_false_eq_true, strOf_inj]) | refine vIfE_of (fun _ => ?_) (fun _ => ?_) | refine vIfD_of (fun _ => ?_) (fun _ => ?_) | refine vIfQ_of (fun _ => ?_) (fun _ => ?_) | refine vIfV_of (fun _ => ?_) (fun _ => ?_) | refine And.intro (by omega) ?_ | refine drawn_q ?_ | fail)
end Go.Proofs.Ytdfdohajjgjbdaa
