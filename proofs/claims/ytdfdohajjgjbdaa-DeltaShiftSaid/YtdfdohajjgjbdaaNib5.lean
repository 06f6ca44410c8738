/- The contracts of Unpack, the program's and the document's. -/
import Derived.Test.YtdfdohajjgjbdaaNib4
set_option linter.unusedSimpArgs false
namespace Go.Proofs.Ytdfdohajjgjbdaa
open Go.Vc Go.Nib
/-- Which error Unpack answers. -/
def unE (b : List UInt8) (n width : Int) : Int :=
  if n < 0 ∨ 65536 < n ∨ width < 0 ∨ 64 < width then 1 else if b.length ≠ (n.toNat * width.toNat + 7) / 8 then 71 else if pack (nums b n.toNat width.toNat) width.toNat ≠ b then 71 else 0
def unR (b : List UInt8) (n width : Int) : List UInt64 := if unE b n width = 0 then nums b n.toNat width.toNat else []
def Unpacks (w : World) (B : Nat) (r : Value) (b : List UInt8) (n width : Int) : Prop := ∃ x, r = .tuple #[x, .int .i64 (unE b n width)] ∧ OwnW w B 47 x (unR b n width)
theorem unpacks_err {w : World} {B : Nat} {b : List UInt8} {n width e : Int} (h : unE b n width = e) (he : ¬ e = 0) : Unpacks w B (.tuple #[.slice none 0 0, .int .i64 e]) b n width := by
  refine ⟨.slice none 0 0, by rw [h], ?_⟩
  unfold unR
  rw [h, if_neg he]; exact own_nil _ _ _ _
theorem unpacks_ok {w : World} {B : Nat} {b : List UInt8} {n width : Int} {x : Value} (h : unE b n width = 0) (ho : OwnW w B 47 x (nums b n.toNat width.toNat)) : Unpacks w B (.tuple #[x, .int .i64 0]) b n width := by
  refine ⟨x, by rw [h], ?_⟩
  unfold unR
  rw [if_pos h]; exact ho
theorem szR_bad {n width : Int} (h : n < 0 ∨ 65536 < n ∨ width < 0 ∨ 64 < width) : szR n width = (0, 1) := by unfold szR; rw [if_pos h]
theorem szR_ok {n k : Nat} (h : ¬ ((n : Int) < 0 ∨ 65536 < (n : Int) ∨ (k : Int) < 0 ∨ 64 < (k : Int))) : szR (n : Int) (k : Int) = ((((n * k + 7) / 8 : Nat) : Int), 0) := by
  unfold szR
  rw [if_neg h]
  simp only [Int.natCast_ediv, Int.natCast_add, Int.natCast_mul]; rfl
/-- What is unpacked so far, and room. -/
def pad (b : List UInt8) (n k i : Nat) : List Value := (nums b i k).map u64v ++ List.replicate (n - i) (.int .u64 0)
theorem pad_len {b : List UInt8} {n k i : Nat} (h : i ≤ n) : (pad b n k i).length = n := by unfold pad; simp [nums_len]; omega
theorem pad_set {b : List UInt8} {n k i : Nat} (h : i < n) : (pad b n k i).set i (u64v (UInt64.ofNat (num b (i * k) k))) = pad b n k (i + 1) := by
  unfold pad
  obtain ⟨m, hm⟩ : ∃ m, n - i = m + 1 := ⟨n - i - 1, by omega⟩
  have hm2 : n - (i + 1) = m := by omega
  rw [hm, hm2, List.replicate_succ, nums_succ, List.map_append, List.append_assoc, List.set_append_right _ _ (by simp [nums_len])]
  simp [nums_len]
theorem pack_nums (b : List UInt8) (n k : Nat) (h : k ≤ 64) (hn : n ≤ 65536) : pkE (nums b n k).length (wid (nums b n k)) (k : Int) = 0 ∧ pkR (nums b n k) (k : Int) = pack (nums b n k) k := by
  have h1 := wid_nums b n k h
  have h2 : pkE (nums b n k).length (wid (nums b n k)) (k : Int) = 0 := by
    unfold pkE
    rw [nums_len, if_neg (by omega), if_neg (by omega)]
  refine ⟨h2, ?_⟩
  unfold pkR
  rw [if_pos h2, Int.toNat_natCast]
set_option maxRecDepth 100000 in
theorem unpack_c (v : Value) (b : List UInt8) (n width : Int) (w : World) (h : Sl w v (b.map u8v)) (hl : b.length ≤ 140737488355000) (h1 : -9223372036854775808 ≤ n ∧ n ≤ 9223372036854775807) (h2 : -9223372036854775808 ≤ width ∧ width ≤ 9223372036854775807) :
    FnC Try.prog 55 #[v, .int .i64 n, .int .i64 width] w fun r w' => Unpacks w' w.heap.size r b n width ∧ Later w w' := by
  have hs := h
  obtain ⟨o, c, rfl, g1, g2, h, h3⟩ := h.openM
  refine enter55 _ _ _ ?_
  unfold B55
  repeat' (first | (simp (disch := omega) only [push_cast, ↓reduceIte, Nat.reduceEqDiff, Int.reduceToNat, Nat.reducePow, Int.reducePow, Int.reduceNeg, Nat.reduceMul, Int.reduceMul, Int.reduceAdd, Int.reduceSub, Nat.reduceAdd, Nat.reduceSub, Nat.reduceLeDiff, Int.reduceLT, Int.reduceLE, Int.reduceEq, Int.reduceMod, Int.reduceDiv, reduceCtorEq, not_true_eq_false, not_false_eq_true]) | refine vIfE_of (fun _ => ?_) (fun _ => ?_) | refine vIfD_of (fun _ => ?_) (fun _ => ?_) | refine vIfQ_of (fun _ => ?_) (fun _ => ?_) | refine vIfV_of (fun _ => ?_) (fun _ => ?_) | refine And.intro (by omega) ?_ | refine drawn_q ?_ | fail)
  refine (size_c n width w h1 h2).mono ?_
  rintro _ w0 ⟨rfl, hw⟩
  obtain rfl := hw.symm
  by_cases hb : n < 0 ∨ 65536 < n ∨ width < 0 ∨ 64 < width
  · rw [szR_bad hb]
    unfold tup2i
    repeat' (first | (simp (disch := omega) only [push_cast, ↓reduceIte, Nat.reduceEqDiff, Int.reduceToNat, Nat.reducePow, Int.reducePow, Int.reduceNeg, Nat.reduceMul, Int.reduceMul, Int.reduceAdd, Int.reduceSub, Nat.reduceAdd, Nat.reduceSub, Nat.reduceLeDiff, Int.reduceLT, Int.reduceLE, Int.reduceEq, Int.reduceMod, Int.reduceDiv, reduceCtorEq, not_true_eq_false, not_false_eq_true]) | refine vIfE_of (fun _ => ?_) (fun _ => ?_) | refine vIfD_of (fun _ => ?_) (fun _ => ?_) | refine vIfQ_of (fun _ => ?_) (fun _ => ?_) | refine vIfV_of (fun _ => ?_) (fun _ => ?_) | refine And.intro (by omega) ?_ | refine drawn_q ?_ | fail)
    exact ⟨unpacks_err (by unfold unE; rw [if_pos hb]) (by omega), Later.refl _⟩
  obtain ⟨k, rfl⟩ := Int.eq_ofNat_of_zero_le (show 0 ≤ width by omega)
  obtain ⟨n, rfl⟩ := Int.eq_ofNat_of_zero_le (show 0 ≤ n by omega)
  rw [szR_ok hb]
  unfold tup2i
  have hm : n * k ≤ 65536 * 64 := Nat.mul_le_mul (by omega) (by omega)
  have hE0 : unE b n k = if b.length ≠ (n * k + 7) / 8 then 71 else if pack (nums b n k) k ≠ b then 71 else 0 := by
    unfold unE; rw [if_neg hb]; rfl
  have hq : (n * k + 7) / 8 * 8 ≥ n * k := by omega
  generalize hk : (n * k + 7) / 8 = q at *
  by_cases hlen : b.length ≠ q
  · repeat' (first | (simp (disch := omega) only [push_cast, ↓reduceIte, Nat.reduceEqDiff, Int.reduceToNat, Nat.reducePow, Int.reducePow, Int.reduceNeg, Nat.reduceMul, Int.reduceMul, Int.reduceAdd, Int.reduceSub, Nat.reduceAdd, Nat.reduceSub, Nat.reduceLeDiff, Int.reduceLT, Int.reduceLE, Int.reduceEq, Int.reduceMod, Int.reduceDiv, reduceCtorEq, not_true_eq_false, not_false_eq_true]) | refine vIfE_of (fun _ => ?_) (fun _ => ?_) | refine vIfD_of (fun _ => ?_) (fun _ => ?_) | refine vIfQ_of (fun _ => ?_) (fun _ => ?_) | refine vIfV_of (fun _ => ?_) (fun _ => ?_) | refine And.intro (by omega) ?_ | refine drawn_q ?_ | fail)
    exact ⟨unpacks_err (by rw [hE0, if_pos hlen]) (by omega), Later.refl _⟩
  rw [if_neg hlen] at hE0
  repeat' (first | (simp (disch := omega) only [push_cast, ↓reduceIte, Nat.reduceEqDiff, Int.reduceToNat, Nat.reducePow, Int.reducePow, Int.reduceNeg, Nat.reduceMul, Int.reduceMul, Int.reduceAdd, Int.reduceSub, Nat.reduceAdd, Nat.reduceSub, Nat.reduceLeDiff, Int.reduceLT, Int.reduceLE, Int.reduceEq, Int.reduceMod, Int.reduceDiv, reduceCtorEq, not_true_eq_false, not_false_eq_true]) | refine vIfE_of (fun _ => ?_) (fun _ => ?_) | refine vIfD_of (fun _ => ?_) (fun _ => ?_) | refine vIfQ_of (fun _ => ?_) (fun _ => ?_) | refine vIfV_of (fun _ => ?_) (fun _ => ?_) | refine And.intro (by omega) ?_ | refine drawn_q ?_ | fail)
  refine vMakeSlice_ok Try.underlying45 ti47 rfl (by omega) (by unfold maxLen; omega) ?_
  have hl1 := later_alloc w (.cells (List.replicate n (.int .u64 0)).toArray 47)
  have B1 := Blk.new w (List.replicate n (.int .u64 0)).toArray 47
  generalize w.alloc (.cells (List.replicate n (.int .u64 0)).toArray 47) = w1 at *
  repeat' (first | (simp (disch := omega) only [push_cast, ↓reduceIte, Nat.reduceEqDiff, Int.reduceToNat, Nat.reducePow, Int.reducePow, Int.reduceNeg, Nat.reduceMul, Int.reduceMul, Int.reduceAdd, Int.reduceSub, Nat.reduceAdd, Nat.reduceSub, Nat.reduceLeDiff, Int.reduceLT, Int.reduceLE, Int.reduceEq, Int.reduceMod, Int.reduceDiv, reduceCtorEq, not_true_eq_false, not_false_eq_true]) | refine vIfE_of (fun _ => ?_) (fun _ => ?_) | refine vIfD_of (fun _ => ?_) (fun _ => ?_) | refine vIfQ_of (fun _ => ?_) (fun _ => ?_) | refine vIfV_of (fun _ => ?_) (fun _ => ?_) | refine And.intro (by omega) ?_ | refine drawn_q ?_ | fail)
  refine vc_loop W55_0 (fun i : Nat => [(33, .int .i64 (i : Int))])
    (fun i w' => i ≤ n ∧ Later w w' ∧ Blk w' w.heap.size (pad b n k i).toArray 47) (fun i => n - i) 0 (by decide) ?_ ?_ ?_
  · simp (disch := omega) only [push_cast, ↓reduceIte, Nat.reduceEqDiff, Int.reduceToNat, Nat.reducePow, Int.reducePow, Int.reduceNeg, Nat.reduceMul, Int.reduceMul, Int.reduceAdd, Int.reduceSub, Nat.reduceAdd, Nat.reduceSub, Nat.reduceLeDiff, Int.reduceLT, Int.reduceLE, Int.reduceEq, Int.reduceMod, Int.reduceDiv, reduceCtorEq, not_true_eq_false, not_false_eq_true]
  · refine ⟨by omega, hl1, ?_⟩
    unfold pad; simpa [nums] using B1
  rintro i uu w2 ⟨hi, hl2, B2⟩
  repeat' (first | (simp (disch := omega) only [push_cast, ↓reduceIte, Nat.reduceEqDiff, Int.reduceToNat, Nat.reducePow, Int.reducePow, Int.reduceNeg, Nat.reduceMul, Int.reduceMul, Int.reduceAdd, Int.reduceSub, Nat.reduceAdd, Nat.reduceSub, Nat.reduceLeDiff, Int.reduceLT, Int.reduceLE, Int.reduceEq, Int.reduceMod, Int.reduceDiv, reduceCtorEq, not_true_eq_false, not_false_eq_true]) | refine vIfE_of (fun _ => ?_) (fun _ => ?_) | refine vIfD_of (fun _ => ?_) (fun _ => ?_) | refine vIfQ_of (fun _ => ?_) (fun _ => ?_) | refine vIfV_of (fun _ => ?_) (fun _ => ?_) | refine And.intro (by omega) ?_ | refine drawn_q ?_ | fail)
  · have hik : i * k + k ≤ n * k := by
      have := Nat.mul_le_mul_right k (show i + 1 ≤ n by omega)
      rw [Nat.add_mul, Nat.one_mul] at this; exact this
    have hnum := number_c (.slice o b.length c) b (i * k) k w2 (h.later hl2) (by omega) (by omega) (by omega)
    have hn64 := num_lt b (i * k) k (by omega)
    have hset := pad_set (b := b) (n := n) (k := k) (i := i) (by omega)
    rw [u64v_nat hn64] at hset
    rw [Int.natCast_mul] at hnum
    have hb1 : 0 ≤ (i : Int) * (k : Int) := Int.mul_nonneg (by omega) (by omega)
    have hb2 : (i : Int) * (k : Int) ≤ 4194304 := by
      have : ((i * k : Nat) : Int) ≤ 4194304 := by omega
      rwa [Int.natCast_mul] at this
    repeat' (first | (simp (disch := omega) only [push_cast, ↓reduceIte, Nat.reduceEqDiff, Int.reduceToNat, Nat.reducePow, Int.reducePow, Int.reduceNeg, Nat.reduceMul, Int.reduceMul, Int.reduceAdd, Int.reduceSub, Nat.reduceAdd, Nat.reduceSub, Nat.reduceLeDiff, Int.reduceLT, Int.reduceLE, Int.reduceEq, Int.reduceMod, Int.reduceDiv, reduceCtorEq, not_true_eq_false, not_false_eq_true]) | refine vIfE_of (fun _ => ?_) (fun _ => ?_) | refine vIfD_of (fun _ => ?_) (fun _ => ?_) | refine vIfQ_of (fun _ => ?_) (fun _ => ?_) | refine vIfV_of (fun _ => ?_) (fun _ => ?_) | refine And.intro (by omega) ?_ | refine drawn_q ?_ | fail)
    refine hnum.mono ?_
    rintro _ w0 ⟨rfl, hw⟩
    obtain rfl := hw.symm
    have B3 := B2.setL (i := i) (.int .u64 (num b (i * k) k))
    rw [hset] at B3
    have g3 := chg_setCell (i := i) w2 (ks := [w.heap.size]) (k := w.heap.size) (by simp) (.int .u64 (num b (i * k) k))
    have hfz := B2.frozen i
    have hce : ∃ y, w2.cell? ⟨w.heap.size, i, none⟩ = some y := by
      rw [B2.cell]; exact ⟨(pad b n k i)[i]'(by rw [pad_len hi]; omega), by simp⟩
    generalize num b (i * k) k = X at *
    repeat' (first | (simp (disch := omega) only [push_cast, ↓reduceIte, Nat.reduceEqDiff, Int.reduceToNat, Nat.reducePow, Int.reducePow, Int.reduceNeg, Nat.reduceMul, Int.reduceMul, Int.reduceAdd, Int.reduceSub, Nat.reduceAdd, Nat.reduceSub, Nat.reduceLeDiff, Int.reduceLT, Int.reduceLE, Int.reduceEq, Int.reduceMod, Int.reduceDiv, reduceCtorEq, not_true_eq_false, not_false_eq_true, addr_add_eq, Nat.zero_add, hfz]) | refine vIfE_of (fun _ => ?_) (fun _ => ?_) | refine vIfD_of (fun _ => ?_) (fun _ => ?_) | refine vIfQ_of (fun _ => ?_) (fun _ => ?_) | refine vIfV_of (fun _ => ?_) (fun _ => ?_) | refine And.intro (by omega) ?_ | refine drawn_q ?_ | fail)
    exact ⟨rfl, i + 1, by simp (disch := omega) only [push_cast, ↓reduceIte, Nat.reduceEqDiff, Int.reduceToNat, Nat.reducePow, Int.reducePow, Int.reduceNeg, Nat.reduceMul, Int.reduceMul, Int.reduceAdd, Int.reduceSub, Nat.reduceAdd, Nat.reduceSub, Nat.reduceLeDiff, Int.reduceLT, Int.reduceLE, Int.reduceEq, Int.reduceMod, Int.reduceDiv, reduceCtorEq, not_true_eq_false, not_false_eq_true], ⟨by omega, g3.later hl2 (by simp), B3⟩, by simp; omega⟩
  · have e : i = n := by omega
    subst e
    have hp : pad b i k i = (nums b i k).map u64v := by unfold pad; simp
    rw [hp] at B2
    have hS := Sl.of_blk B2 (n := i) (by simp [nums_len]) (by unfold maxLen; omega)
    have hpn := pack_nums b i k (by omega) (by omega)
    refine (pack_c _ (nums b i k) k w2 hS (by rw [nums_len]; omega) (by omega)).mono ?_
    rintro _ w3 ⟨⟨x, rfl, hx⟩, hl3⟩
    rw [hpn.1]
    rw [hpn.2] at hx
    have hxs := hx.slice
    obtain ⟨ox, cx, rfl⟩ := hxs
    repeat' (first | (simp (disch := omega) only [push_cast, ↓reduceIte, Nat.reduceEqDiff, Int.reduceToNat, Nat.reducePow, Int.reducePow, Int.reduceNeg, Nat.reduceMul, Int.reduceMul, Int.reduceAdd, Int.reduceSub, Nat.reduceAdd, Nat.reduceSub, Nat.reduceLeDiff, Int.reduceLT, Int.reduceLE, Int.reduceEq, Int.reduceMod, Int.reduceDiv, reduceCtorEq, not_true_eq_false, not_false_eq_true]) | refine vIfE_of (fun _ => ?_) (fun _ => ?_) | refine vIfD_of (fun _ => ?_) (fun _ => ?_) | refine vIfQ_of (fun _ => ?_) (fun _ => ?_) | refine vIfV_of (fun _ => ?_) (fun _ => ?_) | refine And.intro (by omega) ?_ | refine drawn_q ?_ | fail)
    refine (equal_c _ _ _ b w3 hx.sl (hs.later (hl2.trans hl3))).mono ?_
    rintro _ w0 ⟨rfl, hw⟩
    obtain rfl := hw.symm
    have hl23 := hl2.trans hl3
    by_cases hpb : pack (nums b i k) k = b
    · have hd : decide (pack (nums b i k) k = b) = true := by simpa using hpb
      rw [hd]
      repeat' (first | (simp (disch := omega) only [push_cast, ↓reduceIte, Nat.reduceEqDiff, Int.reduceToNat, Nat.reducePow, Int.reducePow, Int.reduceNeg, Nat.reduceMul, Int.reduceMul, Int.reduceAdd, Int.reduceSub, Nat.reduceAdd, Nat.reduceSub, Nat.reduceLeDiff, Int.reduceLT, Int.reduceLE, Int.reduceEq, Int.reduceMod, Int.reduceDiv, reduceCtorEq, not_true_eq_false, not_false_eq_true]) | refine vIfE_of (fun _ => ?_) (fun _ => ?_) | refine vIfD_of (fun _ => ?_) (fun _ => ?_) | refine vIfQ_of (fun _ => ?_) (fun _ => ?_) | refine vIfV_of (fun _ => ?_) (fun _ => ?_) | refine And.intro (by omega) ?_ | refine drawn_q ?_ | fail)
      refine ⟨unpacks_ok (by rw [hE0, if_neg (by simpa using hpb)]) ?_, hl23⟩
      have := own_blk (B2.chg (Chg.of_later (ks := []) hl3) (by simp)) (n := i) (base := w.heap.size) (by simp [nums_len]) (by unfold maxLen; omega) (Nat.le_refl _)
      unfold OwnW
      simp only [Int.toNat_natCast]
      rw [nums_len]; exact this
    · have hd : decide (pack (nums b i k) k = b) = false := by simpa using hpb
      rw [hd]
      repeat' (first | (simp (disch := omega) only [push_cast, ↓reduceIte, Nat.reduceEqDiff, Int.reduceToNat, Nat.reducePow, Int.reducePow, Int.reduceNeg, Nat.reduceMul, Int.reduceMul, Int.reduceAdd, Int.reduceSub, Nat.reduceAdd, Nat.reduceSub, Nat.reduceLeDiff, Int.reduceLT, Int.reduceLE, Int.reduceEq, Int.reduceMod, Int.reduceDiv, reduceCtorEq, not_true_eq_false, not_false_eq_true]) | refine vIfE_of (fun _ => ?_) (fun _ => ?_) | refine vIfD_of (fun _ => ?_) (fun _ => ?_) | refine vIfQ_of (fun _ => ?_) (fun _ => ?_) | refine vIfV_of (fun _ => ?_) (fun _ => ?_) | refine And.intro (by omega) ?_ | refine drawn_q ?_ | fail)
      exact ⟨unpacks_err (by rw [hE0, if_pos (by simpa using hpb)]) (by omega), hl23⟩
theorem own_app64 {w : World} {B : Nat} {e : TypeId} {v : Value} {a : List UInt64} {x : UInt64} {n : Nat} (h : w.ownsRow B e 1 v n (a.map u64v ++ [u64v x])) : OwnW w B e v (a ++ [x]) := by
  have := own_n h
  unfold OwnW
  rw [this] at h
  simpa using h
set_option maxRecDepth 100000 in
theorem rUnpack_c (v : Value) (b : List UInt8) (n width : Int) (w : World) (h : Sl w v (b.map u8v)) (hl : b.length ≤ 140737488355000) (h1 : -9223372036854775808 ≤ n ∧ n ≤ 9223372036854775807) (h2 : -9223372036854775808 ≤ width ∧ width ≤ 9223372036854775807) :
    FnC Try.prog 60 #[v, .int .i64 n, .int .i64 width] w fun r w' => Unpacks w' w.heap.size r b n width ∧ Later w w' := by
  have hs := h
  obtain ⟨o, c, rfl, g1, g2, h, h3⟩ := h.openM
  refine enter60 _ _ _ ?_
  unfold B60
  repeat' (first | (simp (disch := omega) only [push_cast, ↓reduceIte, Nat.reduceEqDiff, Int.reduceToNat, Nat.reducePow, Int.reducePow, Int.reduceNeg, Nat.reduceMul, Int.reduceMul, Int.reduceAdd, Int.reduceSub, Nat.reduceAdd, Nat.reduceSub, Nat.reduceLeDiff, Int.reduceLT, Int.reduceLE, Int.reduceEq, Int.reduceMod, Int.reduceDiv, reduceCtorEq, not_true_eq_false, not_false_eq_true]) | refine vIfE_of (fun _ => ?_) (fun _ => ?_) | refine vIfD_of (fun _ => ?_) (fun _ => ?_) | refine vIfQ_of (fun _ => ?_) (fun _ => ?_) | refine vIfV_of (fun _ => ?_) (fun _ => ?_) | refine And.intro (by omega) ?_ | refine drawn_q ?_ | fail)
  refine (rSize_c n width w h1 h2).mono ?_
  rintro _ w0 ⟨rfl, hw⟩
  obtain rfl := hw.symm
  by_cases hb : n < 0 ∨ 65536 < n ∨ width < 0 ∨ 64 < width
  · rw [szR_bad hb]
    unfold tup2i
    repeat' (first | (simp (disch := omega) only [push_cast, ↓reduceIte, Nat.reduceEqDiff, Int.reduceToNat, Nat.reducePow, Int.reducePow, Int.reduceNeg, Nat.reduceMul, Int.reduceMul, Int.reduceAdd, Int.reduceSub, Nat.reduceAdd, Nat.reduceSub, Nat.reduceLeDiff, Int.reduceLT, Int.reduceLE, Int.reduceEq, Int.reduceMod, Int.reduceDiv, reduceCtorEq, not_true_eq_false, not_false_eq_true]) | refine vIfE_of (fun _ => ?_) (fun _ => ?_) | refine vIfD_of (fun _ => ?_) (fun _ => ?_) | refine vIfQ_of (fun _ => ?_) (fun _ => ?_) | refine vIfV_of (fun _ => ?_) (fun _ => ?_) | refine And.intro (by omega) ?_ | refine drawn_q ?_ | fail)
    exact ⟨unpacks_err (by unfold unE; rw [if_pos hb]) (by omega), Later.refl _⟩
  obtain ⟨k, rfl⟩ := Int.eq_ofNat_of_zero_le (show 0 ≤ width by omega)
  obtain ⟨n, rfl⟩ := Int.eq_ofNat_of_zero_le (show 0 ≤ n by omega)
  rw [szR_ok hb]
  unfold tup2i
  have hm : n * k ≤ 65536 * 64 := Nat.mul_le_mul (by omega) (by omega)
  have hE0 : unE b n k = if b.length ≠ (n * k + 7) / 8 then 71 else if pack (nums b n k) k ≠ b then 71 else 0 := by
    unfold unE; rw [if_neg hb]; rfl
  have hq : (n * k + 7) / 8 * 8 ≥ n * k := by omega
  generalize hk : (n * k + 7) / 8 = q at *
  by_cases hlen : b.length ≠ q
  · repeat' (first | (simp (disch := omega) only [push_cast, ↓reduceIte, Nat.reduceEqDiff, Int.reduceToNat, Nat.reducePow, Int.reducePow, Int.reduceNeg, Nat.reduceMul, Int.reduceMul, Int.reduceAdd, Int.reduceSub, Nat.reduceAdd, Nat.reduceSub, Nat.reduceLeDiff, Int.reduceLT, Int.reduceLE, Int.reduceEq, Int.reduceMod, Int.reduceDiv, reduceCtorEq, not_true_eq_false, not_false_eq_true]) | refine vIfE_of (fun _ => ?_) (fun _ => ?_) | refine vIfD_of (fun _ => ?_) (fun _ => ?_) | refine vIfQ_of (fun _ => ?_) (fun _ => ?_) | refine vIfV_of (fun _ => ?_) (fun _ => ?_) | refine And.intro (by omega) ?_ | refine drawn_q ?_ | fail)
    exact ⟨unpacks_err (by rw [hE0, if_pos hlen]) (by omega), Later.refl _⟩
  rw [if_neg hlen] at hE0
  repeat' (first | (simp (disch := omega) only [push_cast, ↓reduceIte, Nat.reduceEqDiff, Int.reduceToNat, Nat.reducePow, Int.reducePow, Int.reduceNeg, Nat.reduceMul, Int.reduceMul, Int.reduceAdd, Int.reduceSub, Nat.reduceAdd, Nat.reduceSub, Nat.reduceLeDiff, Int.reduceLT, Int.reduceLE, Int.reduceEq, Int.reduceMod, Int.reduceDiv, reduceCtorEq, not_true_eq_false, not_false_eq_true]) | refine vIfE_of (fun _ => ?_) (fun _ => ?_) | refine vIfD_of (fun _ => ?_) (fun _ => ?_) | refine vIfQ_of (fun _ => ?_) (fun _ => ?_) | refine vIfV_of (fun _ => ?_) (fun _ => ?_) | refine And.intro (by omega) ?_ | refine drawn_q ?_ | fail)
  refine vc_loop W60_0 (fun p : Nat × Value => [(10, p.2), (11, .int .i64 (p.1 : Int))])
    (fun p w' => p.1 ≤ n ∧ Later w w' ∧ OwnW w' w.heap.size 47 p.2 (nums b p.1 k)) (fun p => n - p.1) (0, .slice none 0 0) (by decide) ?_ ?_ ?_
  · simp (disch := omega) only [push_cast, ↓reduceIte, Nat.reduceEqDiff, Int.reduceToNat, Nat.reducePow, Int.reducePow, Int.reduceNeg, Nat.reduceMul, Int.reduceMul, Int.reduceAdd, Int.reduceSub, Nat.reduceAdd, Nat.reduceSub, Nat.reduceLeDiff, Int.reduceLT, Int.reduceLE, Int.reduceEq, Int.reduceMod, Int.reduceDiv, reduceCtorEq, not_true_eq_false, not_false_eq_true]
  · exact ⟨by omega, Later.refl _, own_nil _ _ _ _⟩
  rintro ⟨i, v⟩ uu w2 ⟨hi, hl2, ho⟩
  dsimp only at hi ho
  obtain ⟨ov, cv, rfl⟩ := ho.slice
  unfold OwnW at ho
  rw [nums_len] at ho ⊢
  repeat' (first | (simp (disch := omega) only [push_cast, ↓reduceIte, Nat.reduceEqDiff, Int.reduceToNat, Nat.reducePow, Int.reducePow, Int.reduceNeg, Nat.reduceMul, Int.reduceMul, Int.reduceAdd, Int.reduceSub, Nat.reduceAdd, Nat.reduceSub, Nat.reduceLeDiff, Int.reduceLT, Int.reduceLE, Int.reduceEq, Int.reduceMod, Int.reduceDiv, reduceCtorEq, not_true_eq_false, not_false_eq_true]) | refine vIfE_of (fun _ => ?_) (fun _ => ?_) | refine vIfD_of (fun _ => ?_) (fun _ => ?_) | refine vIfQ_of (fun _ => ?_) (fun _ => ?_) | refine vIfV_of (fun _ => ?_) (fun _ => ?_) | refine And.intro (by omega) ?_ | refine drawn_q ?_ | fail)
  · have hik : i * k + k ≤ n * k := by
      have := Nat.mul_le_mul_right k (show i + 1 ≤ n by omega)
      rw [Nat.add_mul, Nat.one_mul] at this; exact this
    have hnum := rNumber_c (.slice o b.length c) b (i * k) k w2 (h.later hl2) (by omega) (by omega) (by omega)
    have hn64 := num_lt b (i * k) k (by omega)
    have hsucc := nums_succ b i k
    have hu := u64v_nat hn64
    rw [Int.natCast_mul] at hnum
    have hb1 : 0 ≤ (i : Int) * (k : Int) := Int.mul_nonneg (by omega) (by omega)
    have hb2 : (i : Int) * (k : Int) ≤ 4194304 := by
      have : ((i * k : Nat) : Int) ≤ 4194304 := by omega
      rwa [Int.natCast_mul] at this
    repeat' (first | (simp (disch := omega) only [push_cast, ↓reduceIte, Nat.reduceEqDiff, Int.reduceToNat, Nat.reducePow, Int.reducePow, Int.reduceNeg, Nat.reduceMul, Int.reduceMul, Int.reduceAdd, Int.reduceSub, Nat.reduceAdd, Nat.reduceSub, Nat.reduceLeDiff, Int.reduceLT, Int.reduceLE, Int.reduceEq, Int.reduceMod, Int.reduceDiv, reduceCtorEq, not_true_eq_false, not_false_eq_true]) | refine vIfE_of (fun _ => ?_) (fun _ => ?_) | refine vIfD_of (fun _ => ?_) (fun _ => ?_) | refine vIfQ_of (fun _ => ?_) (fun _ => ?_) | refine vIfV_of (fun _ => ?_) (fun _ => ?_) | refine And.intro (by omega) ?_ | refine drawn_q ?_ | fail)
    refine hnum.mono ?_
    rintro _ w0 ⟨rfl, hw⟩
    obtain rfl := hw.symm
    generalize num b (i * k) k = X at *
    repeat' (first | (simp (disch := omega) only [push_cast, ↓reduceIte, Nat.reduceEqDiff, Int.reduceToNat, Nat.reducePow, Int.reducePow, Int.reduceNeg, Nat.reduceMul, Int.reduceMul, Int.reduceAdd, Int.reduceSub, Nat.reduceAdd, Nat.reduceSub, Nat.reduceLeDiff, Int.reduceLT, Int.reduceLE, Int.reduceEq, Int.reduceMod, Int.reduceDiv, reduceCtorEq, not_true_eq_false, not_false_eq_true]) | refine vIfE_of (fun _ => ?_) (fun _ => ?_) | refine vIfD_of (fun _ => ?_) (fun _ => ?_) | refine vIfQ_of (fun _ => ?_) (fun _ => ?_) | refine vIfV_of (fun _ => ?_) (fun _ => ?_) | refine And.intro (by omega) ?_ | refine drawn_q ?_ | fail)
    refine vAppend_one Try.underlying45 ti47 rfl ho rfl (by unfold maxLen; omega) (by omega) hl2.size ?_
    intro v4 w4 h4 hg4
    rw [← hu] at h4
    have ho4 := own_app64 h4
    rw [← hsucc] at ho4
    repeat' (first | (simp (disch := omega) only [push_cast, ↓reduceIte, Nat.reduceEqDiff, Int.reduceToNat, Nat.reducePow, Int.reducePow, Int.reduceNeg, Nat.reduceMul, Int.reduceMul, Int.reduceAdd, Int.reduceSub, Nat.reduceAdd, Nat.reduceSub, Nat.reduceLeDiff, Int.reduceLT, Int.reduceLE, Int.reduceEq, Int.reduceMod, Int.reduceDiv, reduceCtorEq, not_true_eq_false, not_false_eq_true]) | refine vIfE_of (fun _ => ?_) (fun _ => ?_) | refine vIfD_of (fun _ => ?_) (fun _ => ?_) | refine vIfQ_of (fun _ => ?_) (fun _ => ?_) | refine vIfV_of (fun _ => ?_) (fun _ => ?_) | refine And.intro (by omega) ?_ | refine drawn_q ?_ | fail)
    exact ⟨rfl, (i + 1, v4), by simp (disch := omega) only [push_cast, ↓reduceIte, Nat.reduceEqDiff, Int.reduceToNat, Nat.reducePow, Int.reducePow, Int.reduceNeg, Nat.reduceMul, Int.reduceMul, Int.reduceAdd, Int.reduceSub, Nat.reduceAdd, Nat.reduceSub, Nat.reduceLeDiff, Int.reduceLT, Int.reduceLE, Int.reduceEq, Int.reduceMod, Int.reduceDiv, reduceCtorEq, not_true_eq_false, not_false_eq_true], ⟨by dsimp only; omega, hg4 _ hl2 (Nat.le_refl _), ho4⟩, by simp; omega⟩
  · have e : i = n := by omega
    subst e
    have hS : Sl w2 (.slice ov i cv) ((nums b i k).map u64v) := Sl.of_own ho
    have hpn := pack_nums b i k (by omega) (by omega)
    refine (rPack_c _ (nums b i k) k w2 hS (by rw [nums_len]; omega) (by omega)).mono ?_
    rintro _ w3 ⟨⟨x, rfl, hx⟩, hl3⟩
    rw [hpn.1]
    rw [hpn.2] at hx
    have hxs := hx.slice
    obtain ⟨ox, cx, rfl⟩ := hxs
    have hl23 := hl2.trans hl3
    repeat' (first | (simp (disch := omega) only [push_cast, ↓reduceIte, Nat.reduceEqDiff, Int.reduceToNat, Nat.reducePow, Int.reducePow, Int.reduceNeg, Nat.reduceMul, Int.reduceMul, Int.reduceAdd, Int.reduceSub, Nat.reduceAdd, Nat.reduceSub, Nat.reduceLeDiff, Int.reduceLT, Int.reduceLE, Int.reduceEq, Int.reduceMod, Int.reduceDiv, reduceCtorEq, not_true_eq_false, not_false_eq_true]) | refine vIfE_of (fun _ => ?_) (fun _ => ?_) | refine vIfD_of (fun _ => ?_) (fun _ => ?_) | refine vIfQ_of (fun _ => ?_) (fun _ => ?_) | refine vIfV_of (fun _ => ?_) (fun _ => ?_) | refine And.intro (by omega) ?_ | refine drawn_q ?_ | fail)
    refine vConv_bytes Try.underlying36 Try.underlying9 Try.underlying5 hx.sl ?_
    repeat' (first | (simp (disch := omega) only [push_cast, ↓reduceIte, Nat.reduceEqDiff, Int.reduceToNat, Nat.reducePow, Int.reducePow, Int.reduceNeg, Nat.reduceMul, Int.reduceMul, Int.reduceAdd, Int.reduceSub, Nat.reduceAdd, Nat.reduceSub, Nat.reduceLeDiff, Int.reduceLT, Int.reduceLE, Int.reduceEq, Int.reduceMod, Int.reduceDiv, reduceCtorEq, not_true_eq_false, not_false_eq_true]) | refine vIfE_of (fun _ => ?_) (fun _ => ?_) | refine vIfD_of (fun _ => ?_) (fun _ => ?_) | refine vIfQ_of (fun _ => ?_) (fun _ => ?_) | refine vIfV_of (fun _ => ?_) (fun _ => ?_) | refine And.intro (by omega) ?_ | refine drawn_q ?_ | fail)
    refine vConv_bytes Try.underlying36 Try.underlying9 Try.underlying5 (hs.later hl23) ?_
    by_cases hpb : pack (nums b i k) k = b
    · have hd : decide (pack (nums b i k) k = b) = true := by simpa using hpb
      repeat' (first | (simp (disch := omega) only [push_cast, ↓reduceIte, Nat.reduceEqDiff, Int.reduceToNat, Nat.reducePow, Int.reducePow, Int.reduceNeg, Nat.reduceMul, Int.reduceMul, Int.reduceAdd, Int.reduceSub, Nat.reduceAdd, Nat.reduceSub, Nat.reduceLeDiff, Int.reduceLT, Int.reduceLE, Int.reduceEq, Int.reduceMod, Int.reduceDiv, reduceCtorEq, not_true_eq_false, not_false_eq_true, strOf_inj, hd, hpb, decide_true]) | refine vIfE_of (fun _ => ?_) (fun _ => ?_) | refine vIfD_of (fun _ => ?_) (fun _ => ?_) | refine vIfQ_of (fun _ => ?_) (fun _ => ?_) | refine vIfV_of (fun _ => ?_) (fun _ => ?_) | refine And.intro (by omega) ?_ | refine drawn_q ?_ | fail)
      refine ⟨unpacks_ok (by rw [hE0, if_neg (by simpa using hpb)]) ?_, hl23⟩
      unfold OwnW
      simp only [Int.toNat_natCast]
      rw [nums_len]; exact own_later ho hl3
    · have hd : decide (pack (nums b i k) k = b) = false := by simpa using hpb
      repeat' (first | (simp (disch := omega) only [push_cast, ↓reduceIte, Nat.reduceEqDiff, Int.reduceToNat, Nat.reducePow, Int.reducePow, Int.reduceNeg, Nat.reduceMul, Int.reduceMul, Int.reduceAdd, Int.reduceSub, Nat.reduceAdd, Nat.reduceSub, Nat.reduceLeDiff, Int.reduceLT, Int.reduceLE, Int.reduceEq, Int.reduceMod, Int.reduceDiv, reduceCtorEq, not_true_eq_false, not_false_eq_true, strOf_inj, hd, hpb, decide_false]) | refine vIfE_of (fun _ => ?_) (fun _ => ?_) | refine vIfD_of (fun _ => ?_) (fun _ => ?_) | refine vIfQ_of (fun _ => ?_) (fun _ => ?_) | refine vIfV_of (fun _ => ?_) (fun _ => ?_) | refine And.intro (by omega) ?_ | refine drawn_q ?_ | fail)
      exact ⟨unpacks_err (by rw [hE0, if_pos (by simpa using hpb)]) (by omega), hl23⟩
end Go.Proofs.Ytdfdohajjgjbdaa
