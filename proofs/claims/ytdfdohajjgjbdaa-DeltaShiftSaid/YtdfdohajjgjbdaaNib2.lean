/- The contracts of nibble's loops over bits, and of the document's. -/
import Derived.Test.YtdfdohajjgjbdaaNib1
set_option linter.unusedSimpArgs false
namespace Go.Proofs.Ytdfdohajjgjbdaa
open Go.Vc Go.Nib
set_option maxRecDepth 100000 in
theorem width_c (v : Value) (l : List UInt64) (w : World) (h : Sl w v (l.map u64v)) : FnC Try.prog 42 #[v] w fun v w' => v = .int .i64 (wid l) ∧ w' = w := by
  obtain ⟨o, c, rfl, h1, h2, h, h3⟩ := h.openM
  refine enter42 _ ?_
  unfold B42
  repeat' (first | (simp (disch := omega) only [push_cast, ↓reduceIte, Nat.reduceEqDiff, Int.reduceToNat, Nat.reducePow, Int.reducePow, Int.reduceNeg, Nat.reduceMul, Int.reduceMul, Int.reduceAdd, Int.reduceSub, Nat.reduceAdd, Nat.reduceSub, Nat.reduceLeDiff, Int.reduceLT, Int.reduceLE, Int.reduceEq, Int.reduceMod, Int.reduceDiv, reduceCtorEq, not_true_eq_false, not_false_eq_true]) | refine vIfE_of (fun _ => ?_) (fun _ => ?_) | refine vIfD_of (fun _ => ?_) (fun _ => ?_) | refine vIfQ_of (fun _ => ?_) (fun _ => ?_) | refine vIfV_of (fun _ => ?_) (fun _ => ?_) | refine And.intro (by omega) ?_ | refine drawn_q ?_ | fail)
  refine vc_loop W42_0 (fun i : Nat => [(3, .int .u64 (orAll (l.take i))), (8, .int .i64 (i : Int))])
    (fun i w' => i ≤ l.length ∧ w' = w) (fun i => l.length - i) 0 (by decide) ?_ ?_ ?_
  · simp (disch := omega) only [push_cast, ↓reduceIte, Nat.reduceEqDiff, Int.reduceToNat, Nat.reducePow, Int.reducePow, Int.reduceNeg, Nat.reduceMul, Int.reduceMul, Int.reduceAdd, Int.reduceSub, Nat.reduceAdd, Nat.reduceSub, Nat.reduceLeDiff, Int.reduceLT, Int.reduceLE, Int.reduceEq, Int.reduceMod, Int.reduceDiv, reduceCtorEq, not_true_eq_false, not_false_eq_true]
    rfl
  · exact ⟨by omega, rfl⟩
  rintro i uu w0 ⟨hi, hw⟩
  obtain rfl := hw.symm
  repeat' (first | (simp (disch := omega) only [push_cast, ↓reduceIte, Nat.reduceEqDiff, Int.reduceToNat, Nat.reducePow, Int.reducePow, Int.reduceNeg, Nat.reduceMul, Int.reduceMul, Int.reduceAdd, Int.reduceSub, Nat.reduceAdd, Nat.reduceSub, Nat.reduceLeDiff, Int.reduceLT, Int.reduceLE, Int.reduceEq, Int.reduceMod, Int.reduceDiv, reduceCtorEq, not_true_eq_false, not_false_eq_true]) | refine vIfE_of (fun _ => ?_) (fun _ => ?_) | refine vIfD_of (fun _ => ?_) (fun _ => ?_) | refine vIfQ_of (fun _ => ?_) (fun _ => ?_) | refine vIfV_of (fun _ => ?_) (fun _ => ?_) | refine And.intro (by omega) ?_ | refine drawn_q ?_ | fail)
  · have hi' : i < l.length := by omega
    obtain ⟨a, rfl⟩ := h.some hi'
    have hc := h.at64 hi'
    have ht := take_snoc l i hi'
    repeat' (first | (simp (disch := omega) only [push_cast, ↓reduceIte, Nat.reduceEqDiff, Int.reduceToNat, Nat.reducePow, Int.reducePow, Int.reduceNeg, Nat.reduceMul, Int.reduceMul, Int.reduceAdd, Int.reduceSub, Nat.reduceAdd, Nat.reduceSub, Nat.reduceLeDiff, Int.reduceLT, Int.reduceLE, Int.reduceEq, Int.reduceMod, Int.reduceDiv, reduceCtorEq, not_true_eq_false, not_false_eq_true, hc]) | refine vIfE_of (fun _ => ?_) (fun _ => ?_) | refine vIfD_of (fun _ => ?_) (fun _ => ?_) | refine vIfQ_of (fun _ => ?_) (fun _ => ?_) | refine vIfV_of (fun _ => ?_) (fun _ => ?_) | refine And.intro (by omega) ?_ | refine drawn_q ?_ | fail)
    rw [bit_u64_or _ _ (orAll_64 _) (UInt64.toNat_lt _)]
    refine ⟨rfl, i + 1, by simp (disch := omega) only [push_cast, ↓reduceIte, Nat.reduceEqDiff, Int.reduceToNat, Nat.reducePow, Int.reducePow, Int.reduceNeg, Nat.reduceMul, Int.reduceMul, Int.reduceAdd, Int.reduceSub, Nat.reduceAdd, Nat.reduceSub, Nat.reduceLeDiff, Int.reduceLT, Int.reduceLE, Int.reduceEq, Int.reduceMod, Int.reduceDiv, reduceCtorEq, not_true_eq_false, not_false_eq_true, ht, orAll_snoc], ⟨by omega, rfl⟩, by simp; omega⟩
  · have e : i = l.length := by omega
    subst e
    rw [List.take_length]
    refine (len64_c (orAll l) _ (orAll_64 l)).mono ?_
    rintro _ _ ⟨rfl, rfl⟩
    rw [bl_orAll]
    repeat' (first | (simp (disch := omega) only [push_cast, ↓reduceIte, Nat.reduceEqDiff, Int.reduceToNat, Nat.reducePow, Int.reducePow, Int.reduceNeg, Nat.reduceMul, Int.reduceMul, Int.reduceAdd, Int.reduceSub, Nat.reduceAdd, Nat.reduceSub, Nat.reduceLeDiff, Int.reduceLT, Int.reduceLE, Int.reduceEq, Int.reduceMod, Int.reduceDiv, reduceCtorEq, not_true_eq_false, not_false_eq_true]) | refine vIfE_of (fun _ => ?_) (fun _ => ?_) | refine vIfD_of (fun _ => ?_) (fun _ => ?_) | refine vIfQ_of (fun _ => ?_) (fun _ => ?_) | refine vIfV_of (fun _ => ?_) (fun _ => ?_) | refine And.intro (by omega) ?_ | refine drawn_q ?_ | fail)
set_option maxRecDepth 100000 in
theorem rWidth_c (v : Value) (l : List UInt64) (w : World) (h : Sl w v (l.map u64v)) : FnC Try.prog 47 #[v] w fun v w' => v = .int .i64 (wid l) ∧ w' = w := by
  obtain ⟨o, c, rfl, h1, h2, h, h3⟩ := h.openM
  refine enter47 _ ?_
  unfold B47
  repeat' (first | (simp (disch := omega) only [push_cast, ↓reduceIte, Nat.reduceEqDiff, Int.reduceToNat, Nat.reducePow, Int.reducePow, Int.reduceNeg, Nat.reduceMul, Int.reduceMul, Int.reduceAdd, Int.reduceSub, Nat.reduceAdd, Nat.reduceSub, Nat.reduceLeDiff, Int.reduceLT, Int.reduceLE, Int.reduceEq, Int.reduceMod, Int.reduceDiv, reduceCtorEq, not_true_eq_false, not_false_eq_true]) | refine vIfE_of (fun _ => ?_) (fun _ => ?_) | refine vIfD_of (fun _ => ?_) (fun _ => ?_) | refine vIfQ_of (fun _ => ?_) (fun _ => ?_) | refine vIfV_of (fun _ => ?_) (fun _ => ?_) | refine And.intro (by omega) ?_ | refine drawn_q ?_ | fail)
  refine vc_loop W47_0 (fun i : Nat => [(3, .int .i64 (wid (l.take i))), (4, .int .i64 (i : Int))])
    (fun i w' => i ≤ l.length ∧ w' = w) (fun i => l.length - i) 0 (by decide) ?_ ?_ ?_
  · simp (disch := omega) only [push_cast, ↓reduceIte, Nat.reduceEqDiff, Int.reduceToNat, Nat.reducePow, Int.reducePow, Int.reduceNeg, Nat.reduceMul, Int.reduceMul, Int.reduceAdd, Int.reduceSub, Nat.reduceAdd, Nat.reduceSub, Nat.reduceLeDiff, Int.reduceLT, Int.reduceLE, Int.reduceEq, Int.reduceMod, Int.reduceDiv, reduceCtorEq, not_true_eq_false, not_false_eq_true]
    rfl
  · exact ⟨by omega, rfl⟩
  rintro i uu w0 ⟨hi, hw⟩
  obtain rfl := hw.symm
  repeat' (first | (simp (disch := omega) only [push_cast, ↓reduceIte, Nat.reduceEqDiff, Int.reduceToNat, Nat.reducePow, Int.reducePow, Int.reduceNeg, Nat.reduceMul, Int.reduceMul, Int.reduceAdd, Int.reduceSub, Nat.reduceAdd, Nat.reduceSub, Nat.reduceLeDiff, Int.reduceLT, Int.reduceLE, Int.reduceEq, Int.reduceMod, Int.reduceDiv, reduceCtorEq, not_true_eq_false, not_false_eq_true]) | refine vIfE_of (fun _ => ?_) (fun _ => ?_) | refine vIfD_of (fun _ => ?_) (fun _ => ?_) | refine vIfQ_of (fun _ => ?_) (fun _ => ?_) | refine vIfV_of (fun _ => ?_) (fun _ => ?_) | refine And.intro (by omega) ?_ | refine drawn_q ?_ | fail)
  · have hi' : i < l.length := by omega
    obtain ⟨a, rfl⟩ := h.some hi'
    have hc := h.at64 hi'
    have ht := take_snoc l i hi'
    repeat' (first | (simp (disch := omega) only [push_cast, ↓reduceIte, Nat.reduceEqDiff, Int.reduceToNat, Nat.reducePow, Int.reducePow, Int.reduceNeg, Nat.reduceMul, Int.reduceMul, Int.reduceAdd, Int.reduceSub, Nat.reduceAdd, Nat.reduceSub, Nat.reduceLeDiff, Int.reduceLT, Int.reduceLE, Int.reduceEq, Int.reduceMod, Int.reduceDiv, reduceCtorEq, not_true_eq_false, not_false_eq_true, hc]) | refine vIfE_of (fun _ => ?_) (fun _ => ?_) | refine vIfD_of (fun _ => ?_) (fun _ => ?_) | refine vIfQ_of (fun _ => ?_) (fun _ => ?_) | refine vIfV_of (fun _ => ?_) (fun _ => ?_) | refine And.intro (by omega) ?_ | refine drawn_q ?_ | fail)
    refine vc_loop W47_1 (fun p : Nat × Nat => [(5, .int .i64 (p.1 : Int)), (6, .int .u64 (p.2 : Int))])
      (fun p w' => w' = w ∧ p.2 < 18446744073709551616 ∧ bl l[i].toNat = p.1 + bl p.2) (fun p => p.2) (0, l[i].toNat) (by decide) ?_ ?_ ?_
    · simp (disch := omega) only [push_cast, ↓reduceIte, Nat.reduceEqDiff, Int.reduceToNat, Nat.reducePow, Int.reducePow, Int.reduceNeg, Nat.reduceMul, Int.reduceMul, Int.reduceAdd, Int.reduceSub, Nat.reduceAdd, Nat.reduceSub, Nat.reduceLeDiff, Int.reduceLT, Int.reduceLE, Int.reduceEq, Int.reduceMod, Int.reduceDiv, reduceCtorEq, not_true_eq_false, not_false_eq_true]
    · exact ⟨rfl, UInt64.toNat_lt _, by simp⟩
    rintro ⟨n, x⟩ uu w0 ⟨hw, hx, hb⟩
    obtain rfl := hw.symm
    dsimp only at hx hb
    have h64 := bl_64 (UInt64.toNat_lt l[i])
    have w64 := wid_64 (l.take i)
    repeat' (first | (simp (disch := omega) only [push_cast, ↓reduceIte, Nat.reduceEqDiff, Int.reduceToNat, Nat.reducePow, Int.reducePow, Int.reduceNeg, Nat.reduceMul, Int.reduceMul, Int.reduceAdd, Int.reduceSub, Nat.reduceAdd, Nat.reduceSub, Nat.reduceLeDiff, Int.reduceLT, Int.reduceLE, Int.reduceEq, Int.reduceMod, Int.reduceDiv, reduceCtorEq, not_true_eq_false, not_false_eq_true]) | refine vIfE_of (fun _ => ?_) (fun _ => ?_) | refine vIfD_of (fun _ => ?_) (fun _ => ?_) | refine vIfQ_of (fun _ => ?_) (fun _ => ?_) | refine vIfV_of (fun _ => ?_) (fun _ => ?_) | refine And.intro (by omega) ?_ | refine drawn_q ?_ | fail)
    · have hh := bl_half (x := x) (by omega)
      refine ⟨rfl, (n + 1, x / 2), by simp (disch := omega) only [push_cast, ↓reduceIte, Nat.reduceEqDiff, Int.reduceToNat, Nat.reducePow, Int.reducePow, Int.reduceNeg, Nat.reduceMul, Int.reduceMul, Int.reduceAdd, Int.reduceSub, Nat.reduceAdd, Nat.reduceSub, Nat.reduceLeDiff, Int.reduceLT, Int.reduceLE, Int.reduceEq, Int.reduceMod, Int.reduceDiv, reduceCtorEq, not_true_eq_false, not_false_eq_true], ⟨rfl, by simp; omega, by dsimp only; omega⟩, by simp; omega⟩
    · have hx0 : x = 0 := by omega
      subst hx0
      rw [bl_zero] at hb
      have e : max ((wid (l.take i) : Nat) : Int) (n : Int) = (wid (l.take i ++ [l[i]]) : Nat) := by rw [wid_snoc, hb]; omega
      refine ⟨rfl, i + 1, by simp (disch := omega) only [push_cast, ↓reduceIte, Nat.reduceEqDiff, Int.reduceToNat, Nat.reducePow, Int.reducePow, Int.reduceNeg, Nat.reduceMul, Int.reduceMul, Int.reduceAdd, Int.reduceSub, Nat.reduceAdd, Nat.reduceSub, Nat.reduceLeDiff, Int.reduceLT, Int.reduceLE, Int.reduceEq, Int.reduceMod, Int.reduceDiv, reduceCtorEq, not_true_eq_false, not_false_eq_true, ht, e], ⟨by omega, rfl⟩, by simp; omega⟩
  · have e : i = l.length := by omega
    subst e
    rw [List.take_length]
/-- A bit of a byte. -/
def bitA (b : List UInt8) (k : Nat) : Bool := (b.getD (k / 8) 0).toNat.testBit (k % 8)
theorem shr_bit (x s : Nat) : x / 2 ^ s % 2 = (x.testBit s).toNat := by rw [Nat.testBit_eq_decide_div_mod_eq]; have := Nat.mod_two_eq_zero_or_one (x / 2 ^ s); rcases this with h | h <;> simp [h]
theorem bit8 : ∀ c : Fin 256, ∀ k : Fin 8, bitI .and .u8 ((c.val : Int).fdiv (2 ^ k.val)) 1 = ((c.val.testBit k.val).toNat : Int) := by decide +kernel
theorem bit8_at (c : UInt8) (k : Nat) (h : k < 8) : bitI .and .u8 ((c.toNat : Int).fdiv (2 ^ k)) 1 = ((c.toNat.testBit k).toNat : Int) := bit8 ⟨c.toNat, c.toNat_lt⟩ ⟨k, h⟩
theorem bit_shl (b : Bool) (i : Nat) (h : i < 64) : IntKind.u64.wrap ((b.toNat : Int) * 2 ^ i) = (b.toNat : Int) * 2 ^ i := by
  have hp : 2 ^ i < 18446744073709551616 := Nat.pow_lt_pow_right (n := 64) (by omega) h
  have e : ((b.toNat : Int) * 2 ^ i) = ((b.toNat * 2 ^ i : Nat) : Int) := by rw [Int.natCast_mul, Int.natCast_pow]; rfl
  rw [e]
  exact wrap_u64_nat (by cases b <;> simp <;> omega)
theorem bit_lt (b : Bool) (i : Nat) (h : i < 64) : b.toNat * 2 ^ i < 18446744073709551616 := by
  have hp : 2 ^ i < 18446744073709551616 := Nat.pow_lt_pow_right (n := 64) (by omega) h
  cases b <;> simp <;> omega
theorem or_bit (x : Nat) (b : Bool) (i : Nat) (hx : x < 2 ^ i) (h : i < 64) : bitI .or .u64 (x : Int) ((b.toNat : Int) * 2 ^ i) = (x : Int) + (b.toNat : Int) * 2 ^ i := by
  have e : ((b.toNat : Int) * 2 ^ i) = ((b.toNat * 2 ^ i : Nat) : Int) := by rw [Int.natCast_mul, Int.natCast_pow]; rfl
  rw [e, ← Int.natCast_add]
  have hp : 2 ^ i < 18446744073709551616 := Nat.pow_lt_pow_right (n := 64) (by omega) h
  rw [bit_u64_or _ _ (by omega) (bit_lt b i h)]
  congr 1
  rw [Nat.or_comm, Nat.add_comm, Nat.mul_comm]
  exact (Nat.two_pow_add_eq_or_of_lt hx _).symm
set_option maxRecDepth 100000 in
theorem number_c (v : Value) (b : List UInt8) (s n : Nat) (w : World) (h : Sl w v (b.map u8v)) (hn : n ≤ 64) (hs : s + n ≤ 8 * b.length) (hb : b.length ≤ 140737488355328) :
    FnC Try.prog 74 #[v, .int .i64 s, .int .i64 n] w fun v w' => v = .int .u64 (num b s n) ∧ w' = w := by
  obtain ⟨o, c, rfl, h1, h2, h, h3⟩ := h.openM
  refine enter74 _ _ _ ?_
  unfold B74
  repeat' (first | (simp (disch := omega) only [push_cast, ↓reduceIte, Nat.reduceEqDiff, Int.reduceToNat, Nat.reducePow, Int.reducePow, Int.reduceNeg, Nat.reduceMul, Int.reduceMul, Int.reduceAdd, Int.reduceSub, Nat.reduceAdd, Nat.reduceSub, Nat.reduceLeDiff, Int.reduceLT, Int.reduceLE, Int.reduceEq, Int.reduceMod, Int.reduceDiv, reduceCtorEq, not_true_eq_false, not_false_eq_true]) | refine vIfE_of (fun _ => ?_) (fun _ => ?_) | refine vIfD_of (fun _ => ?_) (fun _ => ?_) | refine vIfQ_of (fun _ => ?_) (fun _ => ?_) | refine vIfV_of (fun _ => ?_) (fun _ => ?_) | refine And.intro (by omega) ?_ | refine drawn_q ?_ | fail)
  refine vc_loop W74_0 (fun i : Nat => [(7, .int .u64 (num b s i)), (11, .int .i64 (i : Int))])
    (fun i w' => i ≤ n ∧ w' = w) (fun i => n - i) 0 (by decide) ?_ ?_ ?_
  · simp (disch := omega) only [push_cast, ↓reduceIte, Nat.reduceEqDiff, Int.reduceToNat, Nat.reducePow, Int.reducePow, Int.reduceNeg, Nat.reduceMul, Int.reduceMul, Int.reduceAdd, Int.reduceSub, Nat.reduceAdd, Nat.reduceSub, Nat.reduceLeDiff, Int.reduceLT, Int.reduceLE, Int.reduceEq, Int.reduceMod, Int.reduceDiv, reduceCtorEq, not_true_eq_false, not_false_eq_true]
    rfl
  · exact ⟨by omega, rfl⟩
  rintro i uu w0 ⟨hi, hw⟩
  obtain rfl := hw.symm
  repeat' (first | (simp (disch := omega) only [push_cast, ↓reduceIte, Nat.reduceEqDiff, Int.reduceToNat, Nat.reducePow, Int.reducePow, Int.reduceNeg, Nat.reduceMul, Int.reduceMul, Int.reduceAdd, Int.reduceSub, Nat.reduceAdd, Nat.reduceSub, Nat.reduceLeDiff, Int.reduceLT, Int.reduceLE, Int.reduceEq, Int.reduceMod, Int.reduceDiv, reduceCtorEq, not_true_eq_false, not_false_eq_true]) | refine vIfE_of (fun _ => ?_) (fun _ => ?_) | refine vIfD_of (fun _ => ?_) (fun _ => ?_) | refine vIfQ_of (fun _ => ?_) (fun _ => ?_) | refine vIfV_of (fun _ => ?_) (fun _ => ?_) | refine And.intro (by omega) ?_ | refine drawn_q ?_ | fail)
  · have hk : (s + i) / 8 < b.length := by omega
    obtain ⟨a, rfl⟩ := h.some hk
    have hc := h.at8 hk
    have e : ((((s : Nat) : Int) + ((i : Nat) : Int)) / 8).toNat = (s + i) / 8 := by omega
    have e2 : ((((s : Nat) : Int) + ((i : Nat) : Int)) % 8).toNat = (s + i) % 8 := by omega
    have e3 := bit8_at b[(s + i) / 8] ((s + i) % 8) (by omega)
    generalize hbb : b[(s + i) / 8].toNat.testBit ((s + i) % 8) = bb at e3
    have e4 : ∀ b : Bool, IntKind.u64.wrap (b.toNat : Int) = (b.toNat : Int) := by decide
    have e5 := or_bit (num b s i) bb i (num_lt' b s i) (by omega)
    have e6 := num_succ b s i hk
    rw [hbb] at e6
    repeat' (first | (simp (disch := omega) only [push_cast, ↓reduceIte, Nat.reduceEqDiff, Int.reduceToNat, Nat.reducePow, Int.reducePow, Int.reduceNeg, Nat.reduceMul, Int.reduceMul, Int.reduceAdd, Int.reduceSub, Nat.reduceAdd, Nat.reduceSub, Nat.reduceLeDiff, Int.reduceLT, Int.reduceLE, Int.reduceEq, Int.reduceMod, Int.reduceDiv, reduceCtorEq, not_true_eq_false, not_false_eq_true, hc, e, e2]) | refine vIfE_of (fun _ => ?_) (fun _ => ?_) | refine vIfD_of (fun _ => ?_) (fun _ => ?_) | refine vIfQ_of (fun _ => ?_) (fun _ => ?_) | refine vIfV_of (fun _ => ?_) (fun _ => ?_) | refine And.intro (by omega) ?_ | refine drawn_q ?_ | fail)
    refine ⟨rfl, i + 1, by simp (disch := omega) only [push_cast, ↓reduceIte, Nat.reduceEqDiff, Int.reduceToNat, Nat.reducePow, Int.reducePow, Int.reduceNeg, Nat.reduceMul, Int.reduceMul, Int.reduceAdd, Int.reduceSub, Nat.reduceAdd, Nat.reduceSub, Nat.reduceLeDiff, Int.reduceLT, Int.reduceLE, Int.reduceEq, Int.reduceMod, Int.reduceDiv, reduceCtorEq, not_true_eq_false, not_false_eq_true, e2, e3, e4, bit_shl bb i (by omega), e5, e6], ⟨by omega, rfl⟩, by simp; omega⟩
  · have e : i = n := by omega
    subst e
    rfl
theorem fdiv_nat (x k : Nat) : ((x : Int).fdiv (2 ^ k)).tmod 2 = ((x / 2 ^ k % 2 : Nat) : Int) := by
  have e : ((2 : Int) ^ k) = ((2 ^ k : Nat) : Int) := by rw [Int.natCast_pow]; rfl
  rw [e, ← Int.ofNat_fdiv, Int.ofNat_tmod]; rfl
set_option maxRecDepth 100000 in
theorem rNumber_c (v : Value) (b : List UInt8) (s n : Nat) (w : World) (h : Sl w v (b.map u8v)) (hn : n ≤ 64) (hs : s + n ≤ 8 * b.length) (hb : b.length ≤ 140737488355328) :
    FnC Try.prog 76 #[v, .int .i64 s, .int .i64 n] w fun v w' => v = .int .u64 (num b s n) ∧ w' = w := by
  obtain ⟨o, c, rfl, h1, h2, h, h3⟩ := h.openM
  refine enter76 _ _ _ ?_
  unfold B76
  repeat' (first | (simp (disch := omega) only [push_cast, ↓reduceIte, Nat.reduceEqDiff, Int.reduceToNat, Nat.reducePow, Int.reducePow, Int.reduceNeg, Nat.reduceMul, Int.reduceMul, Int.reduceAdd, Int.reduceSub, Nat.reduceAdd, Nat.reduceSub, Nat.reduceLeDiff, Int.reduceLT, Int.reduceLE, Int.reduceEq, Int.reduceMod, Int.reduceDiv, reduceCtorEq, not_true_eq_false, not_false_eq_true]) | refine vIfE_of (fun _ => ?_) (fun _ => ?_) | refine vIfD_of (fun _ => ?_) (fun _ => ?_) | refine vIfQ_of (fun _ => ?_) (fun _ => ?_) | refine vIfV_of (fun _ => ?_) (fun _ => ?_) | refine And.intro (by omega) ?_ | refine drawn_q ?_ | fail)
  refine vc_loop W76_0 (fun i : Nat => [(7, .int .u64 (numR b s n i)), (8, .int .i64 ((i : Int) - 1))])
    (fun i w' => i ≤ n ∧ w' = w) (fun i => i) n (by decide) ?_ ?_ ?_
  · simp (disch := omega) only [push_cast, ↓reduceIte, Nat.reduceEqDiff, Int.reduceToNat, Nat.reducePow, Int.reducePow, Int.reduceNeg, Nat.reduceMul, Int.reduceMul, Int.reduceAdd, Int.reduceSub, Nat.reduceAdd, Nat.reduceSub, Nat.reduceLeDiff, Int.reduceLT, Int.reduceLE, Int.reduceEq, Int.reduceMod, Int.reduceDiv, reduceCtorEq, not_true_eq_false, not_false_eq_true]
    rw [numR_end]; rfl
  · exact ⟨by omega, rfl⟩
  rintro i uu w0 ⟨hi, hw⟩
  obtain rfl := hw.symm
  repeat' (first | (simp (disch := omega) only [push_cast, ↓reduceIte, Nat.reduceEqDiff, Int.reduceToNat, Nat.reducePow, Int.reducePow, Int.reduceNeg, Nat.reduceMul, Int.reduceMul, Int.reduceAdd, Int.reduceSub, Nat.reduceAdd, Nat.reduceSub, Nat.reduceLeDiff, Int.reduceLT, Int.reduceLE, Int.reduceEq, Int.reduceMod, Int.reduceDiv, reduceCtorEq, not_true_eq_false, not_false_eq_true]) | refine vIfE_of (fun _ => ?_) (fun _ => ?_) | refine vIfD_of (fun _ => ?_) (fun _ => ?_) | refine vIfQ_of (fun _ => ?_) (fun _ => ?_) | refine vIfV_of (fun _ => ?_) (fun _ => ?_) | refine And.intro (by omega) ?_ | refine drawn_q ?_ | fail)
  · obtain ⟨i, rfl⟩ : ∃ j, i = j + 1 := ⟨i - 1, by omega⟩
    have hk : (s + i) / 8 < b.length := by omega
    obtain ⟨a, rfl⟩ := h.some hk
    have hc := h.at8 hk
    have e : ((((s : Nat) : Int) + ((i : Nat) : Int)) / 8).toNat = (s + i) / 8 := by omega
    have e2 : ((((s : Nat) : Int) + ((i : Nat) : Int)) % 8).toNat = (s + i) % 8 := by omega
    have e6 := numR_step b s n i (by omega) hk
    have e7 := numR_lt b s n (i + 1) (by omega) (by omega)
    have e8 : 2 ^ (64 - (i + 1)) ≤ 2 ^ 63 := Nat.pow_le_pow_right (by omega) (by omega)
    have e3 : ((b[(s + i) / 8].toNat : Int).fdiv (2 ^ ((s + i) % 8))).tmod 2 = ((b[(s + i) / 8].toNat.testBit ((s + i) % 8)).toNat : Int) := by
      rw [← shr_bit]
      exact fdiv_nat _ _
    generalize b[(s + i) / 8].toNat.testBit ((s + i) % 8) = bb at *
    have hbb : bb.toNat ≤ 1 := by cases bb <;> simp
    repeat' (first | (simp (disch := omega) only [push_cast, ↓reduceIte, Nat.reduceEqDiff, Int.reduceToNat, Nat.reducePow, Int.reducePow, Int.reduceNeg, Nat.reduceMul, Int.reduceMul, Int.reduceAdd, Int.reduceSub, Nat.reduceAdd, Nat.reduceSub, Nat.reduceLeDiff, Int.reduceLT, Int.reduceLE, Int.reduceEq, Int.reduceMod, Int.reduceDiv, reduceCtorEq, not_true_eq_false, not_false_eq_true, hc, e, e2, e3, Int.add_sub_cancel]) | refine vIfE_of (fun _ => ?_) (fun _ => ?_) | refine vIfD_of (fun _ => ?_) (fun _ => ?_) | refine vIfQ_of (fun _ => ?_) (fun _ => ?_) | refine vIfV_of (fun _ => ?_) (fun _ => ?_) | refine And.intro (by omega) ?_ | refine drawn_q ?_ | fail)
    refine ⟨rfl, i, by simp (disch := omega) only [push_cast, ↓reduceIte, Nat.reduceEqDiff, Int.reduceToNat, Nat.reducePow, Int.reducePow, Int.reduceNeg, Nat.reduceMul, Int.reduceMul, Int.reduceAdd, Int.reduceSub, Nat.reduceAdd, Nat.reduceSub, Nat.reduceLeDiff, Int.reduceLT, Int.reduceLE, Int.reduceEq, Int.reduceMod, Int.reduceDiv, reduceCtorEq, not_true_eq_false, not_false_eq_true, e2, e3, e6, Int.add_sub_cancel], ⟨by omega, rfl⟩, by simp⟩
  · have e : i = 0 := by omega
    subst e
    rw [numR_zero]
/-- What At answers. -/
def atR (b : List UInt8) (i width : Int) : Int × Int :=
  if i < 0 ∨ width < 0 ∨ 64 < width then (0, 1) else if width = 0 then (0, 0) else if 8 * (b.length : Int) / width ≤ i then (0, 71) else ((num b (i.toNat * width.toNat) width.toNat : Nat), 0)
def tupA (p : Int × Int) : Value := .tuple #[.int .u64 p.1, .int .i64 p.2]
theorem at_q {m i n : Nat} (hn : 0 < n) (h : (i : Int) < 8 * (m : Int) / (n : Int)) : i * n + n ≤ 8 * m := by
  have e : 8 * (m : Int) / (n : Int) = ((8 * m / n : Nat) : Int) := by rw [Int.natCast_ediv, Int.natCast_mul]; rfl
  rw [e] at h
  have h1 : i + 1 ≤ 8 * m / n := by omega
  have h2 := Nat.mul_le_mul_right n h1
  have h3 := Nat.div_mul_le_self (8 * m) n
  rw [Nat.add_mul] at h2
  omega
theorem at_b {m : Nat} {n : Int} (hn : 0 < n) : 0 ≤ 8 * (m : Int) / n ∧ 8 * (m : Int) / n ≤ 8 * (m : Int) := ⟨Int.ediv_nonneg (by omega) (by omega), Int.ediv_le_self _ (by omega)⟩
end Go.Proofs.Ytdfdohajjgjbdaa
