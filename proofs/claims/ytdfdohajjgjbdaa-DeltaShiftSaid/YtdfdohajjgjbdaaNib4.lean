/- The contracts of Pack, the program's and the document's. -/
import Derived.Test.YtdfdohajjgjbdaaNib3
set_option linter.unusedSimpArgs false
namespace Go.Proofs.Ytdfdohajjgjbdaa
open Go.Vc Go.Nib
/-- Which error Pack answers. -/
def pkE (n : Nat) (wd : Nat) (width : Int) : Int := if 65536 < n ∨ width < 0 ∨ 64 < width then 1 else if width < wd then 71 else 0
def pkR (l : List UInt64) (width : Int) : List UInt8 := if pkE l.length (wid l) width = 0 then pack l width.toNat else []
def Packs (w : World) (B : Nat) (r : Value) (l : List UInt64) (width : Int) : Prop := ∃ x, r = .tuple #[x, .int .i64 (pkE l.length (wid l) width)] ∧ OwnB w B 5 x (pkR l width)
theorem packs_err {w : World} {B : Nat} {l : List UInt64} {width e : Int} (h : pkE l.length (wid l) width = e) (he : ¬ e = 0) : Packs w B (.tuple #[.slice none 0 0, .int .i64 e]) l width := by
  refine ⟨.slice none 0 0, by rw [h], ?_⟩
  unfold pkR
  rw [h, if_neg he]; exact own_nil _ _ _ _
theorem szR_pk {n : Nat} {width : Int} : (szR (n : Int) width) = if 65536 < n ∨ width < 0 ∨ 64 < width then (0, 1) else ((((n * width.toNat + 7) / 8 : Nat) : Int), 0) := by
  unfold szR
  by_cases h : 65536 < n ∨ width < 0 ∨ 64 < width
  · rw [if_pos h, if_pos (by omega)]
  · rw [if_neg h, if_neg (by omega)]
    obtain ⟨k, rfl⟩ := Int.eq_ofNat_of_zero_le (show 0 ≤ width by omega)
    simp only [Int.toNat_natCast, Int.natCast_ediv, Int.natCast_add, Int.natCast_mul]; rfl
theorem and_one (x j : Nat) (hx : x < 18446744073709551616) : bitI .and .u64 ((x : Int).fdiv (2 ^ j)) 1 = ((x.testBit j).toNat : Int) := by
  have e : (2 : Int) ^ j = ((2 ^ j : Nat) : Int) := by rw [Int.natCast_pow]; rfl
  have hlt : x / 2 ^ j ≤ x := Nat.div_le_self _ _
  rw [e, ← Int.ofNat_fdiv]
  have := bit_u64_and (x / 2 ^ j) 1 (by omega)
  rw [Nat.and_one_is_mod, shr_bit] at this
  exact this
set_option maxRecDepth 100000 in
theorem pack_c (v : Value) (l : List UInt64) (width : Int) (w : World) (h : Sl w v (l.map u64v)) (hl : l.length ≤ 140737488355000) (h2 : -9223372036854775808 ≤ width ∧ width ≤ 9223372036854775807) :
    FnC Try.prog 43 #[v, .int .i64 width] w fun r w' => Packs w' w.heap.size r l width ∧ Later w w' := by
  have hs := h
  obtain ⟨o, c, rfl, g1, g2, h, h3⟩ := h.openM
  refine enter43 _ _ ?_
  unfold B43
  repeat' (first | (simp (disch := omega) only [push_cast, ↓reduceIte, Nat.reduceEqDiff, Int.reduceToNat, Nat.reducePow, Int.reducePow, Int.reduceNeg, Nat.reduceMul, Int.reduceMul, Int.reduceAdd, Int.reduceSub, Nat.reduceAdd, Nat.reduceSub, Nat.reduceLeDiff, Int.reduceLT, Int.reduceLE, Int.reduceEq, Int.reduceMod, Int.reduceDiv, reduceCtorEq, not_true_eq_false, not_false_eq_true]) | refine vIfE_of (fun _ => ?_) (fun _ => ?_) | refine vIfD_of (fun _ => ?_) (fun _ => ?_) | refine vIfQ_of (fun _ => ?_) (fun _ => ?_) | refine vIfV_of (fun _ => ?_) (fun _ => ?_) | refine And.intro (by omega) ?_ | refine drawn_q ?_ | fail)
  refine (size_c l.length width w (by omega) h2).mono ?_
  rintro _ w0 ⟨rfl, hw⟩
  obtain rfl := hw.symm
  have h64 := wid_64 l
  by_cases hb : 65536 < l.length ∨ width < 0 ∨ 64 < width
  · rw [szR_pk, if_pos hb]
    unfold tup2i
    repeat' (first | (simp (disch := omega) only [push_cast, ↓reduceIte, Nat.reduceEqDiff, Int.reduceToNat, Nat.reducePow, Int.reducePow, Int.reduceNeg, Nat.reduceMul, Int.reduceMul, Int.reduceAdd, Int.reduceSub, Nat.reduceAdd, Nat.reduceSub, Nat.reduceLeDiff, Int.reduceLT, Int.reduceLE, Int.reduceEq, Int.reduceMod, Int.reduceDiv, reduceCtorEq, not_true_eq_false, not_false_eq_true]) | refine vIfE_of (fun _ => ?_) (fun _ => ?_) | refine vIfD_of (fun _ => ?_) (fun _ => ?_) | refine vIfQ_of (fun _ => ?_) (fun _ => ?_) | refine vIfV_of (fun _ => ?_) (fun _ => ?_) | refine And.intro (by omega) ?_ | refine drawn_q ?_ | fail)
    exact ⟨packs_err (by unfold pkE; rw [if_pos hb]) (by omega), Later.refl _⟩
  obtain ⟨n, rfl⟩ := Int.eq_ofNat_of_zero_le (show 0 ≤ width by omega)
  have hm : l.length * n ≤ 65536 * 64 := Nat.mul_le_mul (by omega) (by omega)
  rw [szR_pk, if_neg hb, Int.toNat_natCast]
  unfold tup2i
  have hal := allBits_len l n
  have hpk : pack l n = pkN ((l.length * n + 7) / 8) (allBits l n) := rfl
  generalize hk : (l.length * n + 7) / 8 = k at *
  repeat' (first | (simp (disch := omega) only [push_cast, ↓reduceIte, Nat.reduceEqDiff, Int.reduceToNat, Nat.reducePow, Int.reducePow, Int.reduceNeg, Nat.reduceMul, Int.reduceMul, Int.reduceAdd, Int.reduceSub, Nat.reduceAdd, Nat.reduceSub, Nat.reduceLeDiff, Int.reduceLT, Int.reduceLE, Int.reduceEq, Int.reduceMod, Int.reduceDiv, reduceCtorEq, not_true_eq_false, not_false_eq_true]) | refine vIfE_of (fun _ => ?_) (fun _ => ?_) | refine vIfD_of (fun _ => ?_) (fun _ => ?_) | refine vIfQ_of (fun _ => ?_) (fun _ => ?_) | refine vIfV_of (fun _ => ?_) (fun _ => ?_) | refine And.intro (by omega) ?_ | refine drawn_q ?_ | fail)
  refine (width_c _ l w hs).mono ?_
  rintro _ w0 ⟨rfl, hw⟩
  obtain rfl := hw.symm
  by_cases hb2 : (n : Int) < wid l
  · repeat' (first | (simp (disch := omega) only [push_cast, ↓reduceIte, Nat.reduceEqDiff, Int.reduceToNat, Nat.reducePow, Int.reducePow, Int.reduceNeg, Nat.reduceMul, Int.reduceMul, Int.reduceAdd, Int.reduceSub, Nat.reduceAdd, Nat.reduceSub, Nat.reduceLeDiff, Int.reduceLT, Int.reduceLE, Int.reduceEq, Int.reduceMod, Int.reduceDiv, reduceCtorEq, not_true_eq_false, not_false_eq_true]) | refine vIfE_of (fun _ => ?_) (fun _ => ?_) | refine vIfD_of (fun _ => ?_) (fun _ => ?_) | refine vIfQ_of (fun _ => ?_) (fun _ => ?_) | refine vIfV_of (fun _ => ?_) (fun _ => ?_) | refine And.intro (by omega) ?_ | refine drawn_q ?_ | fail)
    exact ⟨packs_err (by unfold pkE; rw [if_neg hb, if_pos hb2]) (by omega), Later.refl _⟩
  have hE : pkE l.length (wid l) n = 0 := by unfold pkE; rw [if_neg hb, if_neg hb2]
  have hR : pkR l n = pack l n := by unfold pkR; rw [if_pos hE, Int.toNat_natCast]
  unfold Packs
  rw [hE, hR, hpk]
  repeat' (first | (simp (disch := omega) only [push_cast, ↓reduceIte, Nat.reduceEqDiff, Int.reduceToNat, Nat.reducePow, Int.reducePow, Int.reduceNeg, Nat.reduceMul, Int.reduceMul, Int.reduceAdd, Int.reduceSub, Nat.reduceAdd, Nat.reduceSub, Nat.reduceLeDiff, Int.reduceLT, Int.reduceLE, Int.reduceEq, Int.reduceMod, Int.reduceDiv, reduceCtorEq, not_true_eq_false, not_false_eq_true]) | refine vIfE_of (fun _ => ?_) (fun _ => ?_) | refine vIfD_of (fun _ => ?_) (fun _ => ?_) | refine vIfQ_of (fun _ => ?_) (fun _ => ?_) | refine vIfV_of (fun _ => ?_) (fun _ => ?_) | refine And.intro (by omega) ?_ | refine drawn_q ?_ | fail)
  refine vMakeSlice_ok Try.underlying36 ti5 rfl (by omega) (by unfold maxLen; omega) ?_
  repeat' (first | (simp (disch := omega) only [push_cast, ↓reduceIte, Nat.reduceEqDiff, Int.reduceToNat, Nat.reducePow, Int.reducePow, Int.reduceNeg, Nat.reduceMul, Int.reduceMul, Int.reduceAdd, Int.reduceSub, Nat.reduceAdd, Nat.reduceSub, Nat.reduceLeDiff, Int.reduceLT, Int.reduceLE, Int.reduceEq, Int.reduceMod, Int.reduceDiv, reduceCtorEq, not_true_eq_false, not_false_eq_true]) | refine vIfE_of (fun _ => ?_) (fun _ => ?_) | refine vIfD_of (fun _ => ?_) (fun _ => ?_) | refine vIfQ_of (fun _ => ?_) (fun _ => ?_) | refine vIfV_of (fun _ => ?_) (fun _ => ?_) | refine And.intro (by omega) ?_ | refine drawn_q ?_ | fail)
  have hl1 := later_alloc w (.cells (List.replicate k (.int .u8 0)).toArray 5)
  have B1 := Blk.new w (List.replicate k (.int .u8 0)).toArray 5
  have s1 := World.size_alloc w (.cells (List.replicate k (.int .u8 0)).toArray 5)
  generalize w.alloc (.cells (List.replicate k (.int .u8 0)).toArray 5) = w1 at *
  have hl2 := later_alloc w1 (.cells #[.slice (some ⟨w.heap.size, 0, none⟩) k k] 36)
  have B2 := Blk.new w1 #[.slice (some ⟨w.heap.size, 0, none⟩) k k] 36
  have s2 := World.size_alloc w1 (.cells #[.slice (some ⟨w.heap.size, 0, none⟩) k k] 36)
  have B1 := B1.alloc (.cells #[.slice (some ⟨w.heap.size, 0, none⟩) k k] 36)
  generalize w1.alloc (.cells #[.slice (some ⟨w.heap.size, 0, none⟩) k k] 36) = w2 at *
  have hl3 := later_alloc w2 (.cells #[.int .i64 0] 3)
  have B3 := Blk.new w2 #[.int .i64 0] 3
  have B2 := B2.alloc (.cells #[.int .i64 0] 3)
  have B1 := B1.alloc (.cells #[.int .i64 0] 3)
  generalize w2.alloc (.cells #[.int .i64 0] 3) = w3 at *
  have hlw : Later w w3 := (hl1.trans hl2).trans hl3
  have hS : St w3 w1.heap.size w2.heap.size w.heap.size k [] := by
    refine ⟨B2, B3, ?_, by omega, by omega, by omega⟩
    rw [pkN_nil, List.map_replicate]; exact B1
  generalize w1.heap.size = ko at *
  generalize w2.heap.size = ka at *
  refine vc_loop W43_0 (fun i : Nat => [(35, .int .i64 (i : Int))])
    (fun i w' => i ≤ l.length ∧ Later w w' ∧ St w' ko ka w.heap.size k (allBits (l.take i) n)) (fun i => l.length - i) 0 (by decide) ?_ ?_ ?_
  · simp (disch := omega) only [push_cast, ↓reduceIte, Nat.reduceEqDiff, Int.reduceToNat, Nat.reducePow, Int.reducePow, Int.reduceNeg, Nat.reduceMul, Int.reduceMul, Int.reduceAdd, Int.reduceSub, Nat.reduceAdd, Nat.reduceSub, Nat.reduceLeDiff, Int.reduceLT, Int.reduceLE, Int.reduceEq, Int.reduceMod, Int.reduceDiv, reduceCtorEq, not_true_eq_false, not_false_eq_true]
  · exact ⟨by omega, hlw, hS⟩
  rintro i uu w4 ⟨hi, hl4, hS⟩
  repeat' (first | (simp (disch := omega) only [push_cast, ↓reduceIte, Nat.reduceEqDiff, Int.reduceToNat, Nat.reducePow, Int.reducePow, Int.reduceNeg, Nat.reduceMul, Int.reduceMul, Int.reduceAdd, Int.reduceSub, Nat.reduceAdd, Nat.reduceSub, Nat.reduceLeDiff, Int.reduceLT, Int.reduceLE, Int.reduceEq, Int.reduceMod, Int.reduceDiv, reduceCtorEq, not_true_eq_false, not_false_eq_true]) | refine vIfE_of (fun _ => ?_) (fun _ => ?_) | refine vIfD_of (fun _ => ?_) (fun _ => ?_) | refine vIfQ_of (fun _ => ?_) (fun _ => ?_) | refine vIfV_of (fun _ => ?_) (fun _ => ?_) | refine And.intro (by omega) ?_ | refine drawn_q ?_ | fail)
  · have hi' : i < l.length := by omega
    obtain ⟨a, rfl⟩ := h.some hi'
    have hc := (h.later hl4).at64 hi'
    have hin : i * n + n ≤ l.length * n := by
      have := Nat.mul_le_mul_right n hi'
      rw [Nat.succ_eq_add_one, Nat.add_mul, Nat.one_mul] at this; exact this
    have hlt : (l.take i).length = i := by simp; omega
    have hal2 := allBits_len (l.take i) n
    rw [hlt] at hal2
    repeat' (first | (simp (disch := omega) only [push_cast, ↓reduceIte, Nat.reduceEqDiff, Int.reduceToNat, Nat.reducePow, Int.reducePow, Int.reduceNeg, Nat.reduceMul, Int.reduceMul, Int.reduceAdd, Int.reduceSub, Nat.reduceAdd, Nat.reduceSub, Nat.reduceLeDiff, Int.reduceLT, Int.reduceLE, Int.reduceEq, Int.reduceMod, Int.reduceDiv, reduceCtorEq, not_true_eq_false, not_false_eq_true, hc]) | refine vIfE_of (fun _ => ?_) (fun _ => ?_) | refine vIfD_of (fun _ => ?_) (fun _ => ?_) | refine vIfQ_of (fun _ => ?_) (fun _ => ?_) | refine vIfV_of (fun _ => ?_) (fun _ => ?_) | refine And.intro (by omega) ?_ | refine drawn_q ?_ | fail)
    refine vc_loop W43_1 (fun j : Nat => [(40, .int .i64 (j : Int))])
      (fun j w' => j ≤ n ∧ Later w w' ∧ St w' ko ka w.heap.size k (allBits (l.take i) n ++ bitsOf l[i].toNat j)) (fun j => n - j) 0 (by decide) ?_ ?_ ?_
    · simp (disch := omega) only [push_cast, ↓reduceIte, Nat.reduceEqDiff, Int.reduceToNat, Nat.reducePow, Int.reducePow, Int.reduceNeg, Nat.reduceMul, Int.reduceMul, Int.reduceAdd, Int.reduceSub, Nat.reduceAdd, Nat.reduceSub, Nat.reduceLeDiff, Int.reduceLT, Int.reduceLE, Int.reduceEq, Int.reduceMod, Int.reduceDiv, reduceCtorEq, not_true_eq_false, not_false_eq_true]
    · exact ⟨by omega, hl4, by simpa [bitsOf] using hS⟩
    rintro j uu w5 ⟨hj, hl5, hS5⟩
    have hx := UInt64.toNat_lt l[i]
    have hbit := and_one l[i].toNat j hx
    repeat' (first | (simp (disch := omega) only [push_cast, ↓reduceIte, Nat.reduceEqDiff, Int.reduceToNat, Nat.reducePow, Int.reducePow, Int.reduceNeg, Nat.reduceMul, Int.reduceMul, Int.reduceAdd, Int.reduceSub, Nat.reduceAdd, Nat.reduceSub, Nat.reduceLeDiff, Int.reduceLT, Int.reduceLE, Int.reduceEq, Int.reduceMod, Int.reduceDiv, reduceCtorEq, not_true_eq_false, not_false_eq_true, hbit]) | refine vIfE_of (fun _ => ?_) (fun _ => ?_) | refine vIfD_of (fun _ => ?_) (fun _ => ?_) | refine vIfQ_of (fun _ => ?_) (fun _ => ?_) | refine vIfV_of (fun _ => ?_) (fun _ => ?_) | refine And.intro (by omega) ?_ | refine drawn_q ?_ | fail)
    · have hbl := bitsOf_len l[i].toNat j
      refine (set_c (l[i].toNat.testBit j) ko ka w.heap.size k _ w5 hS5 (by rw [List.length_append, hal2, hbl]; omega) (by omega)).mono ?_
      rintro _ w6 ⟨hS6, hg⟩
      have hl6 : Later w w6 := hg.later hl5 (by simp; omega)
      rw [List.append_assoc, ← bitsOf_succ] at hS6
      repeat' (first | (simp (disch := omega) only [push_cast, ↓reduceIte, Nat.reduceEqDiff, Int.reduceToNat, Nat.reducePow, Int.reducePow, Int.reduceNeg, Nat.reduceMul, Int.reduceMul, Int.reduceAdd, Int.reduceSub, Nat.reduceAdd, Nat.reduceSub, Nat.reduceLeDiff, Int.reduceLT, Int.reduceLE, Int.reduceEq, Int.reduceMod, Int.reduceDiv, reduceCtorEq, not_true_eq_false, not_false_eq_true]) | refine vIfE_of (fun _ => ?_) (fun _ => ?_) | refine vIfD_of (fun _ => ?_) (fun _ => ?_) | refine vIfQ_of (fun _ => ?_) (fun _ => ?_) | refine vIfV_of (fun _ => ?_) (fun _ => ?_) | refine And.intro (by omega) ?_ | refine drawn_q ?_ | fail)
      exact ⟨rfl, j + 1, by simp (disch := omega) only [push_cast, ↓reduceIte, Nat.reduceEqDiff, Int.reduceToNat, Nat.reducePow, Int.reducePow, Int.reduceNeg, Nat.reduceMul, Int.reduceMul, Int.reduceAdd, Int.reduceSub, Nat.reduceAdd, Nat.reduceSub, Nat.reduceLeDiff, Int.reduceLT, Int.reduceLE, Int.reduceEq, Int.reduceMod, Int.reduceDiv, reduceCtorEq, not_true_eq_false, not_false_eq_true], ⟨by omega, hl6, hS6⟩, by simp; omega⟩
    · have e : j = n := by omega
      subst e
      rw [← allBits_snoc, ← take_snoc l i hi'] at hS5
      exact ⟨rfl, i + 1, by simp (disch := omega) only [push_cast, ↓reduceIte, Nat.reduceEqDiff, Int.reduceToNat, Nat.reducePow, Int.reducePow, Int.reduceNeg, Nat.reduceMul, Int.reduceMul, Int.reduceAdd, Int.reduceSub, Nat.reduceAdd, Nat.reduceSub, Nat.reduceLeDiff, Int.reduceLT, Int.reduceLE, Int.reduceEq, Int.reduceMod, Int.reduceDiv, reduceCtorEq, not_true_eq_false, not_false_eq_true], ⟨by omega, hl5, hS5⟩, by simp; omega⟩
  · have e : i = l.length := by omega
    subst e
    rw [List.take_length] at hS
    have hc : w4.cell? ⟨ko, 0, none⟩ = some (.slice (some ⟨w.heap.size, 0, none⟩) k k) := hS.1.cell 0
    repeat' (first | (simp (disch := omega) only [push_cast, ↓reduceIte, Nat.reduceEqDiff, Int.reduceToNat, Nat.reducePow, Int.reducePow, Int.reduceNeg, Nat.reduceMul, Int.reduceMul, Int.reduceAdd, Int.reduceSub, Nat.reduceAdd, Nat.reduceSub, Nat.reduceLeDiff, Int.reduceLT, Int.reduceLE, Int.reduceEq, Int.reduceMod, Int.reduceDiv, reduceCtorEq, not_true_eq_false, not_false_eq_true, hc]) | refine vIfE_of (fun _ => ?_) (fun _ => ?_) | refine vIfD_of (fun _ => ?_) (fun _ => ?_) | refine vIfQ_of (fun _ => ?_) (fun _ => ?_) | refine vIfV_of (fun _ => ?_) (fun _ => ?_) | refine And.intro (by omega) ?_ | refine drawn_q ?_ | fail)
    refine ⟨⟨_, rfl, ?_⟩, hl4⟩
    have := own_blk hS.2.2.1 (n := k) (base := w.heap.size) (by simp [pkN_len]) (by unfold maxLen; omega) (Nat.le_refl _)
    unfold OwnB
    rw [pkN_len]; exact this
theorem add_set : ∀ (m : Fin 8) (x : Fin 256) (b : Bool), x.val < 2 ^ m.val → IntKind.u8.wrap ((x.val : Int) + IntKind.u8.wrap ((b.toNat : Int) * 2 ^ m.val)) = ((x.val + b.toNat * 2 ^ m.val : Nat) : Int) := by decide +kernel
theorem add_set_at {m x : Nat} (b : Bool) (hm : m < 8) (hx : x < 2 ^ m) : IntKind.u8.wrap ((x : Int) + IntKind.u8.wrap ((b.toNat : Int) * 2 ^ m)) = ((x + b.toNat * 2 ^ m : Nat) : Int) := by
  have hp : 2 ^ m ≤ 2 ^ 8 := Nat.pow_le_pow_right (by omega) (by omega)
  exact add_set ⟨m, hm⟩ ⟨x, by omega⟩ b hx
theorem bus_at {w : World} {a : Addr} {bs : List Bool} {n c : Nat} (h : Sl w (.slice (some a) n c) ((bs.map bu).map u8v)) {i : Nat} (hi : i < bs.length) : w.cell? (a.add i) = some (.int .u8 (bs[i].toNat : Int)) := h.at (by simp [hi, bu_v])
theorem own_app {w : World} {B : Nat} {e : TypeId} {v : Value} {a b : List UInt8} {n : Nat} (h : w.ownsRow B e 1 v n (a.map u8v ++ b.map u8v)) : OwnB w B e v (a ++ b) := by
  have := own_n h
  unfold OwnB
  rw [this] at h
  simpa using h
theorem sl_n8 {w : World} {v : Value} {l : List UInt8} (h : Sl w v (l.map u8v)) : SlN w 1 v l.length (l.map u8v) := by simpa [Sl] using h
set_option maxRecDepth 100000 in
theorem rPack_c (v : Value) (l : List UInt64) (width : Int) (w : World) (h : Sl w v (l.map u64v)) (hl : l.length ≤ 140737488355000) (h2 : -9223372036854775808 ≤ width ∧ width ≤ 9223372036854775807) :
    FnC Try.prog 48 #[v, .int .i64 width] w fun r w' => Packs w' w.heap.size r l width ∧ Later w w' := by
  have hs := h
  obtain ⟨o, c, rfl, g1, g2, h, h3⟩ := h.openM
  refine enter48 _ _ ?_
  unfold B48
  repeat' (first | (simp (disch := omega) only [push_cast, ↓reduceIte, Nat.reduceEqDiff, Int.reduceToNat, Nat.reducePow, Int.reducePow, Int.reduceNeg, Nat.reduceMul, Int.reduceMul, Int.reduceAdd, Int.reduceSub, Nat.reduceAdd, Nat.reduceSub, Nat.reduceLeDiff, Int.reduceLT, Int.reduceLE, Int.reduceEq, Int.reduceMod, Int.reduceDiv, reduceCtorEq, not_true_eq_false, not_false_eq_true]) | refine vIfE_of (fun _ => ?_) (fun _ => ?_) | refine vIfD_of (fun _ => ?_) (fun _ => ?_) | refine vIfQ_of (fun _ => ?_) (fun _ => ?_) | refine vIfV_of (fun _ => ?_) (fun _ => ?_) | refine And.intro (by omega) ?_ | refine drawn_q ?_ | fail)
  refine (rSize_c l.length width w (by omega) h2).mono ?_
  rintro _ w0 ⟨rfl, hw⟩
  obtain rfl := hw.symm
  have h64 := wid_64 l
  by_cases hb : 65536 < l.length ∨ width < 0 ∨ 64 < width
  · rw [szR_pk, if_pos hb]
    unfold tup2i
    repeat' (first | (simp (disch := omega) only [push_cast, ↓reduceIte, Nat.reduceEqDiff, Int.reduceToNat, Nat.reducePow, Int.reducePow, Int.reduceNeg, Nat.reduceMul, Int.reduceMul, Int.reduceAdd, Int.reduceSub, Nat.reduceAdd, Nat.reduceSub, Nat.reduceLeDiff, Int.reduceLT, Int.reduceLE, Int.reduceEq, Int.reduceMod, Int.reduceDiv, reduceCtorEq, not_true_eq_false, not_false_eq_true]) | refine vIfE_of (fun _ => ?_) (fun _ => ?_) | refine vIfD_of (fun _ => ?_) (fun _ => ?_) | refine vIfQ_of (fun _ => ?_) (fun _ => ?_) | refine vIfV_of (fun _ => ?_) (fun _ => ?_) | refine And.intro (by omega) ?_ | refine drawn_q ?_ | fail)
    exact ⟨packs_err (by unfold pkE; rw [if_pos hb]) (by omega), Later.refl _⟩
  obtain ⟨n, rfl⟩ := Int.eq_ofNat_of_zero_le (show 0 ≤ width by omega)
  have hm : l.length * n ≤ 65536 * 64 := Nat.mul_le_mul (by omega) (by omega)
  rw [szR_pk, if_neg hb, Int.toNat_natCast]
  unfold tup2i
  have hal := allBits_len l n
  have hpk : pack l n = pkN ((l.length * n + 7) / 8) (allBits l n) := rfl
  generalize hk : (l.length * n + 7) / 8 = k at *
  repeat' (first | (simp (disch := omega) only [push_cast, ↓reduceIte, Nat.reduceEqDiff, Int.reduceToNat, Nat.reducePow, Int.reducePow, Int.reduceNeg, Nat.reduceMul, Int.reduceMul, Int.reduceAdd, Int.reduceSub, Nat.reduceAdd, Nat.reduceSub, Nat.reduceLeDiff, Int.reduceLT, Int.reduceLE, Int.reduceEq, Int.reduceMod, Int.reduceDiv, reduceCtorEq, not_true_eq_false, not_false_eq_true]) | refine vIfE_of (fun _ => ?_) (fun _ => ?_) | refine vIfD_of (fun _ => ?_) (fun _ => ?_) | refine vIfQ_of (fun _ => ?_) (fun _ => ?_) | refine vIfV_of (fun _ => ?_) (fun _ => ?_) | refine And.intro (by omega) ?_ | refine drawn_q ?_ | fail)
  refine (rWidth_c _ l w hs).mono ?_
  rintro _ w0 ⟨rfl, hw⟩
  obtain rfl := hw.symm
  by_cases hb2 : (n : Int) < wid l
  · repeat' (first | (simp (disch := omega) only [push_cast, ↓reduceIte, Nat.reduceEqDiff, Int.reduceToNat, Nat.reducePow, Int.reducePow, Int.reduceNeg, Nat.reduceMul, Int.reduceMul, Int.reduceAdd, Int.reduceSub, Nat.reduceAdd, Nat.reduceSub, Nat.reduceLeDiff, Int.reduceLT, Int.reduceLE, Int.reduceEq, Int.reduceMod, Int.reduceDiv, reduceCtorEq, not_true_eq_false, not_false_eq_true]) | refine vIfE_of (fun _ => ?_) (fun _ => ?_) | refine vIfD_of (fun _ => ?_) (fun _ => ?_) | refine vIfQ_of (fun _ => ?_) (fun _ => ?_) | refine vIfV_of (fun _ => ?_) (fun _ => ?_) | refine And.intro (by omega) ?_ | refine drawn_q ?_ | fail)
    exact ⟨packs_err (by unfold pkE; rw [if_neg hb, if_pos hb2]) (by omega), Later.refl _⟩
  have hE : pkE l.length (wid l) n = 0 := by unfold pkE; rw [if_neg hb, if_neg hb2]
  have hR : pkR l n = pack l n := by unfold pkR; rw [if_pos hE, Int.toNat_natCast]
  unfold Packs
  rw [hE, hR, hpk]
  repeat' (first | (simp (disch := omega) only [push_cast, ↓reduceIte, Nat.reduceEqDiff, Int.reduceToNat, Nat.reducePow, Int.reducePow, Int.reduceNeg, Nat.reduceMul, Int.reduceMul, Int.reduceAdd, Int.reduceSub, Nat.reduceAdd, Nat.reduceSub, Nat.reduceLeDiff, Int.reduceLT, Int.reduceLE, Int.reduceEq, Int.reduceMod, Int.reduceDiv, reduceCtorEq, not_true_eq_false, not_false_eq_true]) | refine vIfE_of (fun _ => ?_) (fun _ => ?_) | refine vIfD_of (fun _ => ?_) (fun _ => ?_) | refine vIfQ_of (fun _ => ?_) (fun _ => ?_) | refine vIfV_of (fun _ => ?_) (fun _ => ?_) | refine And.intro (by omega) ?_ | refine drawn_q ?_ | fail)
  refine vc_loop W48_0 (fun p : Nat × Value => [(8, p.2), (9, .int .i64 (p.1 : Int))])
    (fun p w' => p.1 ≤ l.length ∧ Later w w' ∧ OwnB w' w.heap.size 5 p.2 ((allBits (l.take p.1) n).map bu)) (fun p => l.length - p.1) (0, .slice none 0 0) (by decide) ?_ ?_ ?_
  · simp (disch := omega) only [push_cast, ↓reduceIte, Nat.reduceEqDiff, Int.reduceToNat, Nat.reducePow, Int.reducePow, Int.reduceNeg, Nat.reduceMul, Int.reduceMul, Int.reduceAdd, Int.reduceSub, Nat.reduceAdd, Nat.reduceSub, Nat.reduceLeDiff, Int.reduceLT, Int.reduceLE, Int.reduceEq, Int.reduceMod, Int.reduceDiv, reduceCtorEq, not_true_eq_false, not_false_eq_true]
  · exact ⟨by omega, Later.refl _, own_nil _ _ _ _⟩
  rintro ⟨i, v⟩ uu w1 ⟨hi, hl1, ho⟩
  dsimp only at hi ho
  repeat' (first | (simp (disch := omega) only [push_cast, ↓reduceIte, Nat.reduceEqDiff, Int.reduceToNat, Nat.reducePow, Int.reducePow, Int.reduceNeg, Nat.reduceMul, Int.reduceMul, Int.reduceAdd, Int.reduceSub, Nat.reduceAdd, Nat.reduceSub, Nat.reduceLeDiff, Int.reduceLT, Int.reduceLE, Int.reduceEq, Int.reduceMod, Int.reduceDiv, reduceCtorEq, not_true_eq_false, not_false_eq_true]) | refine vIfE_of (fun _ => ?_) (fun _ => ?_) | refine vIfD_of (fun _ => ?_) (fun _ => ?_) | refine vIfQ_of (fun _ => ?_) (fun _ => ?_) | refine vIfV_of (fun _ => ?_) (fun _ => ?_) | refine And.intro (by omega) ?_ | refine drawn_q ?_ | fail)
  · have hi' : i < l.length := by omega
    obtain ⟨a, rfl⟩ := h.some hi'
    have hc := (h.later hl1).at64 hi'
    have hin : i * n + n ≤ l.length * n := by
      have := Nat.mul_le_mul_right n hi'
      rw [Nat.succ_eq_add_one, Nat.add_mul, Nat.one_mul] at this; exact this
    have hlt : (l.take i).length = i := by simp; omega
    have hal2 := allBits_len (l.take i) n
    rw [hlt] at hal2
    repeat' (first | (simp (disch := omega) only [push_cast, ↓reduceIte, Nat.reduceEqDiff, Int.reduceToNat, Nat.reducePow, Int.reducePow, Int.reduceNeg, Nat.reduceMul, Int.reduceMul, Int.reduceAdd, Int.reduceSub, Nat.reduceAdd, Nat.reduceSub, Nat.reduceLeDiff, Int.reduceLT, Int.reduceLE, Int.reduceEq, Int.reduceMod, Int.reduceDiv, reduceCtorEq, not_true_eq_false, not_false_eq_true, hc]) | refine vIfE_of (fun _ => ?_) (fun _ => ?_) | refine vIfD_of (fun _ => ?_) (fun _ => ?_) | refine vIfQ_of (fun _ => ?_) (fun _ => ?_) | refine vIfV_of (fun _ => ?_) (fun _ => ?_) | refine And.intro (by omega) ?_ | refine drawn_q ?_ | fail)
    have hx := UInt64.toNat_lt l[i]
    have hbl := bitsOf_len l[i].toNat n
    refine (rBits_c l[i].toNat n w1 hx (by omega)).mono ?_
    rintro rv w2 ⟨hr, hl2⟩
    have ho2 := ho.later hl2
    have hl12 := hl1.trans hl2
    obtain ⟨ov, cv, rfl⟩ := ho2.slice
    repeat' (first | (simp (disch := omega) only [push_cast, ↓reduceIte, Nat.reduceEqDiff, Int.reduceToNat, Nat.reducePow, Int.reducePow, Int.reduceNeg, Nat.reduceMul, Int.reduceMul, Int.reduceAdd, Int.reduceSub, Nat.reduceAdd, Nat.reduceSub, Nat.reduceLeDiff, Int.reduceLT, Int.reduceLE, Int.reduceEq, Int.reduceMod, Int.reduceDiv, reduceCtorEq, not_true_eq_false, not_false_eq_true]) | refine vIfE_of (fun _ => ?_) (fun _ => ?_) | refine vIfD_of (fun _ => ?_) (fun _ => ?_) | refine vIfQ_of (fun _ => ?_) (fun _ => ?_) | refine vIfV_of (fun _ => ?_) (fun _ => ?_) | refine And.intro (by omega) ?_ | refine drawn_q ?_ | fail)
    refine vAppend_own Try.underlying36 ti5 rfl (by decide) ho2 (sl_n8 hr.sl) (u8vs_one _) (by unfold maxLen; simp only [List.length_map]; omega) (by simp only [List.length_map]; omega) hl12.size ?_
    intro v' w3 h3' g3 _
    have ho3 := own_app h3'
    rw [← List.map_append, ← allBits_snoc, ← take_snoc l i hi'] at ho3
    have hl3 := hl12.appended ho2 (Nat.le_refl _) g3
    repeat' (first | (simp (disch := omega) only [push_cast, ↓reduceIte, Nat.reduceEqDiff, Int.reduceToNat, Nat.reducePow, Int.reducePow, Int.reduceNeg, Nat.reduceMul, Int.reduceMul, Int.reduceAdd, Int.reduceSub, Nat.reduceAdd, Nat.reduceSub, Nat.reduceLeDiff, Int.reduceLT, Int.reduceLE, Int.reduceEq, Int.reduceMod, Int.reduceDiv, reduceCtorEq, not_true_eq_false, not_false_eq_true]) | refine vIfE_of (fun _ => ?_) (fun _ => ?_) | refine vIfD_of (fun _ => ?_) (fun _ => ?_) | refine vIfQ_of (fun _ => ?_) (fun _ => ?_) | refine vIfV_of (fun _ => ?_) (fun _ => ?_) | refine And.intro (by omega) ?_ | refine drawn_q ?_ | fail)
    exact ⟨rfl, (i + 1, v'), by simp (disch := omega) only [push_cast, ↓reduceIte, Nat.reduceEqDiff, Int.reduceToNat, Nat.reducePow, Int.reducePow, Int.reduceNeg, Nat.reduceMul, Int.reduceMul, Int.reduceAdd, Int.reduceSub, Nat.reduceAdd, Nat.reduceSub, Nat.reduceLeDiff, Int.reduceLT, Int.reduceLE, Int.reduceEq, Int.reduceMod, Int.reduceDiv, reduceCtorEq, not_true_eq_false, not_false_eq_true], ⟨by dsimp only; omega, hl3, ho3⟩, by simp; omega⟩
  have e : i = l.length := by omega
  subst e
  rw [List.take_length] at ho
  generalize allBits l n = bs at *
  obtain ⟨ov, cv, rfl⟩ := ho.slice
  rw [List.length_map] at ho ⊢
  have hos := ho.sl
  repeat' (first | (simp (disch := omega) only [push_cast, ↓reduceIte, Nat.reduceEqDiff, Int.reduceToNat, Nat.reducePow, Int.reducePow, Int.reduceNeg, Nat.reduceMul, Int.reduceMul, Int.reduceAdd, Int.reduceSub, Nat.reduceAdd, Nat.reduceSub, Nat.reduceLeDiff, Int.reduceLT, Int.reduceLE, Int.reduceEq, Int.reduceMod, Int.reduceDiv, reduceCtorEq, not_true_eq_false, not_false_eq_true]) | refine vIfE_of (fun _ => ?_) (fun _ => ?_) | refine vIfD_of (fun _ => ?_) (fun _ => ?_) | refine vIfQ_of (fun _ => ?_) (fun _ => ?_) | refine vIfV_of (fun _ => ?_) (fun _ => ?_) | refine And.intro (by omega) ?_ | refine drawn_q ?_ | fail)
  refine vc_loop W48_1 (fun p : Nat × Value => [(10, p.2), (11, .int .i64 (p.1 : Int))])
    (fun p w' => p.1 ≤ bs.length ∧ Later w1 w' ∧ OwnB w' w1.heap.size 5 p.2 (pkN ((p.1 + 7) / 8) (bs.take p.1))) (fun p => bs.length - p.1) (0, .slice none 0 0) (by decide) ?_ ?_ ?_
  · simp (disch := omega) only [push_cast, ↓reduceIte, Nat.reduceEqDiff, Int.reduceToNat, Nat.reducePow, Int.reducePow, Int.reduceNeg, Nat.reduceMul, Int.reduceMul, Int.reduceAdd, Int.reduceSub, Nat.reduceAdd, Nat.reduceSub, Nat.reduceLeDiff, Int.reduceLT, Int.reduceLE, Int.reduceEq, Int.reduceMod, Int.reduceDiv, reduceCtorEq, not_true_eq_false, not_false_eq_true]
  · exact ⟨by omega, Later.refl _, own_nil _ _ _ _⟩
  rintro ⟨j, v⟩ uu w2 ⟨hj, hl2, ho2⟩
  dsimp only at hj ho2
  have htl : (bs.take j).length = j := by simp; omega
  repeat' (first | (simp (disch := omega) only [push_cast, ↓reduceIte, Nat.reduceEqDiff, Int.reduceToNat, Nat.reducePow, Int.reducePow, Int.reduceNeg, Nat.reduceMul, Int.reduceMul, Int.reduceAdd, Int.reduceSub, Nat.reduceAdd, Nat.reduceSub, Nat.reduceLeDiff, Int.reduceLT, Int.reduceLE, Int.reduceEq, Int.reduceMod, Int.reduceDiv, reduceCtorEq, not_true_eq_false, not_false_eq_true]) | refine vIfE_of (fun _ => ?_) (fun _ => ?_) | refine vIfD_of (fun _ => ?_) (fun _ => ?_) | refine vIfQ_of (fun _ => ?_) (fun _ => ?_) | refine vIfV_of (fun _ => ?_) (fun _ => ?_) | refine And.intro (by omega) ?_ | fail)
  · have hj' : j < bs.length := by omega
    have hlj := ho2
    unfold OwnB at hlj
    rw [pkN_len] at hlj
    refine vAppend_one Try.underlying36 ti5 rfl hlj rfl (by unfold maxLen; omega) (by omega) hl2.size ?_
    intro v4 w4 h4 hg4
    have hl4 := hg4 _ hl2 (Nat.le_refl _)
    have ho4 : OwnB w4 w1.heap.size 5 v4 (pkN (j / 8 + 1) (bs.take j)) := by
      have e : (j + 7) / 8 = j / 8 := by omega
      rw [e] at h4
      rw [pkN_zero _ _ (by omega)]
      exact own_app (b := [0]) h4
    obtain ⟨ox, cx, rfl⟩ := ho4.slice
    rw [pkN_len] at ho4 ⊢
    have hb4 := byteAt_low (bs.take j)
    have hset := pkN_snoc (j / 8 + 1) (bs.take j) bs[j]
    rw [htl] at hb4 hset
    rw [← take_snoc bs j hj'] at hset
    have hadd := add_set_at bs[j] (m := j % 8) (x := byteAt (bs.take j) (j / 8)) (by omega) hb4
    have hlt := set_lt bs[j] (m := j % 8) (x := byteAt (bs.take j) (j / 8)) (by omega) hb4
    generalize byteAt (bs.take j) (j / 8) + bs[j].toNat * 2 ^ (j % 8) = X at *
    have hgo : (pkN (j / 8 + 1) (bs.take j))[j / 8]? = some (UInt8.ofNat (byteAt (bs.take j) (j / 8))) := pkN_get _ _ _ (by omega)
    have hox : ox ≠ none := by
      intro e; subst e
      have := (ho4.sl.len.2.2.2 rfl).1
      rw [← List.length_eq_zero_iff, List.length_map, pkN_len] at this; omega
    obtain ⟨ax, rfl⟩ := Option.ne_none_iff_exists'.1 hox
    unfold OwnB at ho4
    rw [pkN_len] at ho4
    obtain ⟨kx, _, rfl, hkb, _⟩ := own_blk' ho4
    have s4 : Sl w4 (.slice (some ⟨kx, 0, none⟩) (j / 8 + 1) cx) ((pkN (j / 8 + 1) (bs.take j)).map u8v) := Sl.of_own ho4
    have c1 : w4.cell? ⟨kx, j / 8, none⟩ = some (.int .u8 (byteAt (bs.take j) (j / 8))) := by
      have := s4.at (i := j / 8) (x := u8v (UInt8.ofNat (byteAt (bs.take j) (j / 8)))) (by simp [hgo])
      rwa [addr_add_eq, Nat.zero_add, u8v_nat (byteAt_lt _ _)] at this
    obtain ⟨ao, rfl⟩ := hos.some (show j < (bs.map bu).length by simp; omega)
    have c2 := bus_at (hos.later hl4) hj'
    have e1 : ((j : Int) / 8).toNat = j / 8 := by omega
    have e2 : ((j : Int) % 8).toNat = j % 8 := by omega
    repeat' (first | (simp (disch := omega) only [push_cast, ↓reduceIte, Nat.reduceEqDiff, Int.reduceToNat, Nat.reducePow, Int.reducePow, Int.reduceNeg, Nat.reduceMul, Int.reduceMul, Int.reduceAdd, Int.reduceSub, Nat.reduceAdd, Nat.reduceSub, Nat.reduceLeDiff, Int.reduceLT, Int.reduceLE, Int.reduceEq, Int.reduceMod, Int.reduceDiv, reduceCtorEq, not_true_eq_false, not_false_eq_true]) | refine vIfE_of (fun _ => ?_) (fun _ => ?_) | refine vIfD_of (fun _ => ?_) (fun _ => ?_) | refine vIfQ_of (fun _ => ?_) (fun _ => ?_) | refine vIfV_of (fun _ => ?_) (fun _ => ?_) | refine And.intro (by omega) ?_ | fail)
    refine drawn_l ?_
    repeat' (first | (simp (disch := omega) only [push_cast, ↓reduceIte, Nat.reduceEqDiff, Int.reduceToNat, Nat.reducePow, Int.reducePow, Int.reduceNeg, Nat.reduceMul, Int.reduceMul, Int.reduceAdd, Int.reduceSub, Nat.reduceAdd, Nat.reduceSub, Nat.reduceLeDiff, Int.reduceLT, Int.reduceLE, Int.reduceEq, Int.reduceMod, Int.reduceDiv, reduceCtorEq, not_true_eq_false, not_false_eq_true, c1, c2, addr_add_eq, Nat.zero_add, e1, e2, hadd]) | refine vIfE_of (fun _ => ?_) (fun _ => ?_) | refine vIfD_of (fun _ => ?_) (fun _ => ?_) | refine vIfQ_of (fun _ => ?_) (fun _ => ?_) | refine vIfV_of (fun _ => ?_) (fun _ => ?_) | refine And.intro (by omega) ?_ | fail)
    intro w5 hl5
    obtain ⟨hos5, hcs5, hfz5⟩ := own_set (own_later ho4 hl5) (i := j / 8) (by omega) (.int .u8 X)
    repeat' (first | (simp (disch := omega) only [push_cast, ↓reduceIte, Nat.reduceEqDiff, Int.reduceToNat, Nat.reducePow, Int.reducePow, Int.reduceNeg, Nat.reduceMul, Int.reduceMul, Int.reduceAdd, Int.reduceSub, Nat.reduceAdd, Nat.reduceSub, Nat.reduceLeDiff, Int.reduceLT, Int.reduceLE, Int.reduceEq, Int.reduceMod, Int.reduceDiv, reduceCtorEq, not_true_eq_false, not_false_eq_true, hfz5]) | refine vIfE_of (fun _ => ?_) (fun _ => ?_) | refine vIfD_of (fun _ => ?_) (fun _ => ?_) | refine vIfQ_of (fun _ => ?_) (fun _ => ?_) | refine vIfV_of (fun _ => ?_) (fun _ => ?_) | refine And.intro (by omega) ?_ | fail)
    have g5 : Chg w5 (w5.setCell ⟨kx, j / 8, none⟩ (.int .u8 X)) [kx] := chg_setCell w5 (by simp) _
    refine ⟨rfl, (j + 1, .slice (some ⟨kx, 0, none⟩) (j / 8 + 1) cx), by simp (disch := omega) only [push_cast, ↓reduceIte, Nat.reduceEqDiff, Int.reduceToNat, Nat.reducePow, Int.reducePow, Int.reduceNeg, Nat.reduceMul, Int.reduceMul, Int.reduceAdd, Int.reduceSub, Nat.reduceAdd, Nat.reduceSub, Nat.reduceLeDiff, Int.reduceLT, Int.reduceLE, Int.reduceEq, Int.reduceMod, Int.reduceDiv, reduceCtorEq, not_true_eq_false, not_false_eq_true], ⟨by dsimp only; omega, g5.later (hl4.trans hl5) (by simp; omega), ?_⟩, by simp; omega⟩
    unfold OwnB
    dsimp only
    have e3 : (j + 1 + 7) / 8 = j / 8 + 1 := by omega
    rw [e3, pkN_len, hset, List.map_set, u8v_nat hlt]
    exact hos5
  · have hj' : j < bs.length := by omega
    have hl4 := hl2
    have ho4 : OwnB w2 w1.heap.size 5 v (pkN (j / 8 + 1) (bs.take j)) := by
      have e : (j + 7) / 8 = j / 8 + 1 := by omega
      rw [e] at ho2; exact ho2
    obtain ⟨ox, cx, rfl⟩ := ho4.slice
    rw [pkN_len] at ho4 ⊢
    have hb4 := byteAt_low (bs.take j)
    have hset := pkN_snoc (j / 8 + 1) (bs.take j) bs[j]
    rw [htl] at hb4 hset
    rw [← take_snoc bs j hj'] at hset
    have hadd := add_set_at bs[j] (m := j % 8) (x := byteAt (bs.take j) (j / 8)) (by omega) hb4
    have hlt := set_lt bs[j] (m := j % 8) (x := byteAt (bs.take j) (j / 8)) (by omega) hb4
    generalize byteAt (bs.take j) (j / 8) + bs[j].toNat * 2 ^ (j % 8) = X at *
    have hgo : (pkN (j / 8 + 1) (bs.take j))[j / 8]? = some (UInt8.ofNat (byteAt (bs.take j) (j / 8))) := pkN_get _ _ _ (by omega)
    have hox : ox ≠ none := by
      intro e; subst e
      have := (ho4.sl.len.2.2.2 rfl).1
      rw [← List.length_eq_zero_iff, List.length_map, pkN_len] at this; omega
    obtain ⟨ax, rfl⟩ := Option.ne_none_iff_exists'.1 hox
    unfold OwnB at ho4
    rw [pkN_len] at ho4
    obtain ⟨kx, _, rfl, hkb, _⟩ := own_blk' ho4
    have s4 : Sl w2 (.slice (some ⟨kx, 0, none⟩) (j / 8 + 1) cx) ((pkN (j / 8 + 1) (bs.take j)).map u8v) := Sl.of_own ho4
    have c1 : w2.cell? ⟨kx, j / 8, none⟩ = some (.int .u8 (byteAt (bs.take j) (j / 8))) := by
      have := s4.at (i := j / 8) (x := u8v (UInt8.ofNat (byteAt (bs.take j) (j / 8)))) (by simp [hgo])
      rwa [addr_add_eq, Nat.zero_add, u8v_nat (byteAt_lt _ _)] at this
    obtain ⟨ao, rfl⟩ := hos.some (show j < (bs.map bu).length by simp; omega)
    have c2 := bus_at (hos.later hl4) hj'
    have e1 : ((j : Int) / 8).toNat = j / 8 := by omega
    have e2 : ((j : Int) % 8).toNat = j % 8 := by omega
    repeat' (first | (simp (disch := omega) only [push_cast, ↓reduceIte, Nat.reduceEqDiff, Int.reduceToNat, Nat.reducePow, Int.reducePow, Int.reduceNeg, Nat.reduceMul, Int.reduceMul, Int.reduceAdd, Int.reduceSub, Nat.reduceAdd, Nat.reduceSub, Nat.reduceLeDiff, Int.reduceLT, Int.reduceLE, Int.reduceEq, Int.reduceMod, Int.reduceDiv, reduceCtorEq, not_true_eq_false, not_false_eq_true]) | refine vIfE_of (fun _ => ?_) (fun _ => ?_) | refine vIfD_of (fun _ => ?_) (fun _ => ?_) | refine vIfQ_of (fun _ => ?_) (fun _ => ?_) | refine vIfV_of (fun _ => ?_) (fun _ => ?_) | refine And.intro (by omega) ?_ | fail)
    refine drawn_l ?_
    repeat' (first | (simp (disch := omega) only [push_cast, ↓reduceIte, Nat.reduceEqDiff, Int.reduceToNat, Nat.reducePow, Int.reducePow, Int.reduceNeg, Nat.reduceMul, Int.reduceMul, Int.reduceAdd, Int.reduceSub, Nat.reduceAdd, Nat.reduceSub, Nat.reduceLeDiff, Int.reduceLT, Int.reduceLE, Int.reduceEq, Int.reduceMod, Int.reduceDiv, reduceCtorEq, not_true_eq_false, not_false_eq_true, c1, c2, addr_add_eq, Nat.zero_add, e1, e2, hadd]) | refine vIfE_of (fun _ => ?_) (fun _ => ?_) | refine vIfD_of (fun _ => ?_) (fun _ => ?_) | refine vIfQ_of (fun _ => ?_) (fun _ => ?_) | refine vIfV_of (fun _ => ?_) (fun _ => ?_) | refine And.intro (by omega) ?_ | fail)
    intro w5 hl5
    obtain ⟨hos5, hcs5, hfz5⟩ := own_set (own_later ho4 hl5) (i := j / 8) (by omega) (.int .u8 X)
    repeat' (first | (simp (disch := omega) only [push_cast, ↓reduceIte, Nat.reduceEqDiff, Int.reduceToNat, Nat.reducePow, Int.reducePow, Int.reduceNeg, Nat.reduceMul, Int.reduceMul, Int.reduceAdd, Int.reduceSub, Nat.reduceAdd, Nat.reduceSub, Nat.reduceLeDiff, Int.reduceLT, Int.reduceLE, Int.reduceEq, Int.reduceMod, Int.reduceDiv, reduceCtorEq, not_true_eq_false, not_false_eq_true, hfz5]) | refine vIfE_of (fun _ => ?_) (fun _ => ?_) | refine vIfD_of (fun _ => ?_) (fun _ => ?_) | refine vIfQ_of (fun _ => ?_) (fun _ => ?_) | refine vIfV_of (fun _ => ?_) (fun _ => ?_) | refine And.intro (by omega) ?_ | fail)
    have g5 : Chg w5 (w5.setCell ⟨kx, j / 8, none⟩ (.int .u8 X)) [kx] := chg_setCell w5 (by simp) _
    refine ⟨rfl, (j + 1, .slice (some ⟨kx, 0, none⟩) (j / 8 + 1) cx), by simp (disch := omega) only [push_cast, ↓reduceIte, Nat.reduceEqDiff, Int.reduceToNat, Nat.reducePow, Int.reducePow, Int.reduceNeg, Nat.reduceMul, Int.reduceMul, Int.reduceAdd, Int.reduceSub, Nat.reduceAdd, Nat.reduceSub, Nat.reduceLeDiff, Int.reduceLT, Int.reduceLE, Int.reduceEq, Int.reduceMod, Int.reduceDiv, reduceCtorEq, not_true_eq_false, not_false_eq_true], ⟨by dsimp only; omega, g5.later (hl4.trans hl5) (by simp; omega), ?_⟩, by simp; omega⟩
    unfold OwnB
    dsimp only
    have e3 : (j + 1 + 7) / 8 = j / 8 + 1 := by omega
    rw [e3, pkN_len, hset, List.map_set, u8v_nat hlt]
    exact hos5
  · have e : j = bs.length := by omega
    subst e
    rw [List.take_length, hal, hk] at ho2
    refine ⟨⟨v, rfl, ho2.base hl1.size⟩, hl1.trans hl2⟩
end Go.Proofs.Ytdfdohajjgjbdaa
