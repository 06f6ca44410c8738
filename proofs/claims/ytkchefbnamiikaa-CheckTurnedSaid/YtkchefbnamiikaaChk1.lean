/- The contracts of check's sum, and of the document's. -/
import Derived.Test.YtkchefbnamiikaaCodesC
import Derived.Test.YtkchefbnamiikaaChkP2
import Derived.Test.YtkchefbnamiikaaMem4
set_option linter.unusedSimpArgs false
namespace Go.Proofs.Ytkchefbnamiikaa
open Go.Vc Go.Chk Go.Zig
theorem bit_u32_xor (a b : Nat) (ha : a < 4294967296) (hb : b < 4294967296) : bitI .xor .u32 a b = ((a ^^^ b : Nat) : Int) := by
  have h1 : a ^^^ b < 2 ^ 32 := Nat.xor_lt_two_pow ha hb
  show IntKind.u32.wrap ((BitVec.ofInt 32 a ^^^ BitVec.ofInt 32 b).toNat : Int) = _
  simp only [ofInt_nat, BitVec.toNat_xor, BitVec.toNat_ofNat]
  rw [Nat.mod_eq_of_lt (show a < 2 ^ 32 by omega), Nat.mod_eq_of_lt (show b < 2 ^ 32 by omega)]
  exact wrap_u32 (by omega)
theorem bit_u32_and (a b : Nat) (ha : a < 4294967296) (hb : b < 4294967296) : bitI .and .u32 a b = ((a &&& b : Nat) : Int) := by
  have h1 : a &&& b ≤ a := Nat.and_le_left
  show IntKind.u32.wrap ((BitVec.ofInt 32 a &&& BitVec.ofInt 32 b).toNat : Int) = _
  simp only [ofInt_nat, BitVec.toNat_and, BitVec.toNat_ofNat]
  rw [Nat.mod_eq_of_lt (show a < 2 ^ 32 by omega), Nat.mod_eq_of_lt (show b < 2 ^ 32 by omega)]
  exact wrap_u32 (by omega)
/-- One cell of the table. -/
def tbl : List Nat := (List.range 16).map (stN 4)
theorem tbl_len : tbl.length = 16 := rfl
theorem tbl_at {i : Nat} (h : i < 16) : tbl[i]? = some (stN 4 i) := by simp [tbl, h]
def u32v (n : Nat) : Value := .int .u32 n
theorem st_i {x : Nat} (h : x < 4294967296) : bitI .xor .u32 ((x : Int) / 2) (IntKind.u32.wrap (2197175160 * bitI .and .u32 (x : Int) 1)) = ((st x : Nat) : Int) := by
  have h1 := bit_u32_and x 1 h (by omega)
  rw [Nat.and_one_is_mod] at h1
  have h1' : bitI .and .u32 (x : Int) 1 = ((x % 2 : Nat) : Int) := h1
  rw [h1']
  have e : IntKind.u32.wrap (2197175160 * ((x % 2 : Nat) : Int)) = (((if x % 2 = 1 then poly else 0) : Nat) : Int) := by
    by_cases h2 : x % 2 = 1
    · rw [if_pos h2, h2]; rfl
    · have : x % 2 = 0 := by omega
      rw [if_neg h2, this]; rfl
  rw [e]
  have := bit_u32_xor (x / 2) (if x % 2 = 1 then poly else 0) (by omega) (by split <;> decide)
  unfold st
  rw [← this]; rfl
def tpad (i : Nat) : List Value := (tbl.take i).map u32v ++ List.replicate (16 - i) (Value.int .u32 0)
theorem tpad_len {i : Nat} (h : i ≤ 16) : (tpad i).length = 16 := by unfold tpad; simp [tbl_len]; omega
theorem tbl_set {i : Nat} (h : i < 16) : (tpad i).set i (u32v (stN 4 i)) = tpad (i + 1) := by
  unfold tpad
  have hl : ((tbl.take i).map u32v).length = i := by simp [tbl_len]; omega
  obtain ⟨m, hm⟩ : ∃ m, 16 - i = m + 1 := ⟨16 - i - 1, by omega⟩
  have hm2 : 16 - (i + 1) = m := by omega
  have ht : tbl.take (i + 1) = tbl.take i ++ [stN 4 i] := by
    rw [List.take_add_one, tbl_at h]; rfl
  rw [hm, hm2, List.replicate_succ, ht, List.map_append, List.append_assoc, List.set_append_right _ _ (by omega), hl]
  simp
theorem tpad_end : tpad 16 = tbl.map u32v := by unfold tpad; simp [tbl_len, List.take_of_length_le]
theorem tbl_one : ∀ u ∈ tbl.map u32v, u.oneCell' = true := by
  intro u hu
  obtain ⟨c, _, rfl⟩ := List.mem_map.1 hu
  rfl
set_option maxRecDepth 100000 in
theorem table_c (w : World) : FnC Try.prog 47 #[] w fun v w' => v = .agg (tbl.map u32v).toArray ∧ Later w w' := by
  refine enter47 ?_
  unfold B47
  repeat' (first | (simp (disch := omega) only [push_cast, ↓reduceIte, Nat.reduceEqDiff, Int.reduceToNat, Nat.reducePow, Int.reducePow, Int.reduceNeg, Nat.reduceMul, Int.reduceMul, Int.reduceAdd, Int.reduceSub, Nat.reduceAdd, Nat.reduceSub, Nat.reduceLeDiff, Int.reduceLT, Int.reduceLE, Int.reduceEq, Int.reduceMod, Int.reduceDiv, reduceCtorEq, not_true_eq_false, not_false_eq_true]) | refine vIfE_of (fun _ => ?_) (fun _ => ?_) | refine vIfD_of (fun _ => ?_) (fun _ => ?_) | refine vIfQ_of (fun _ => ?_) (fun _ => ?_) | refine vIfV_of (fun _ => ?_) (fun _ => ?_) | refine And.intro (by omega) ?_ | refine drawn_q ?_ | fail)
  have B0 := Blk.new w (tpad 0).toArray 67
  have hl0 := later_alloc w (.cells (tpad 0).toArray 67)
  have s0 := World.size_alloc w (.cells (tpad 0).toArray 67)
  have e0 : (tpad 0).toArray = #[.int .u32 0, .int .u32 0, .int .u32 0, .int .u32 0, .int .u32 0, .int .u32 0, .int .u32 0, .int .u32 0, .int .u32 0, .int .u32 0, .int .u32 0, .int .u32 0, .int .u32 0, .int .u32 0, .int .u32 0, .int .u32 0] := rfl
  rw [← e0]
  generalize w.alloc (.cells (tpad 0).toArray 67) = w1 at *
  have B1 := Blk.new w1 (tpad 0).toArray 67
  have hl1 := later_alloc w1 (.cells (tpad 0).toArray 67)
  have B0 := B0.alloc (.cells (tpad 0).toArray 67)
  generalize w1.alloc (.cells (tpad 0).toArray 67) = w2 at *
  have hl2 := hl0.trans hl1
  generalize hk : w1.heap.size = k1 at *
  refine vc_loop W47_0 (fun i : Nat => [(4, .int .i64 (i : Int))])
    (fun i w' => i ≤ 16 ∧ Later w w' ∧ Blk w' w.heap.size (tpad 0).toArray 67 ∧ Blk w' k1 (tpad i).toArray 67) (fun i => 16 - i) 0 (by decide) ?_ ?_ ?_
  · simp (disch := omega) only [push_cast, ↓reduceIte, Nat.reduceEqDiff, Int.reduceToNat, Nat.reducePow, Int.reducePow, Int.reduceNeg, Nat.reduceMul, Int.reduceMul, Int.reduceAdd, Int.reduceSub, Nat.reduceAdd, Nat.reduceSub, Nat.reduceLeDiff, Int.reduceLT, Int.reduceLE, Int.reduceEq, Int.reduceMod, Int.reduceDiv, reduceCtorEq, not_true_eq_false, not_false_eq_true]
  · exact ⟨by omega, hl2, B0, B1⟩
  rintro i uu w3 ⟨hi, hl3, B0, B1⟩
  by_cases hi' : i < 16
  · repeat' (first | (simp (disch := omega) only [push_cast, ↓reduceIte, Nat.reduceEqDiff, Int.reduceToNat, Nat.reducePow, Int.reducePow, Int.reduceNeg, Nat.reduceMul, Int.reduceMul, Int.reduceAdd, Int.reduceSub, Nat.reduceAdd, Nat.reduceSub, Nat.reduceLeDiff, Int.reduceLT, Int.reduceLE, Int.reduceEq, Int.reduceMod, Int.reduceDiv, reduceCtorEq, not_true_eq_false, not_false_eq_true]) | refine vIfE_of (fun _ => ?_) (fun _ => ?_) | refine vIfD_of (fun _ => ?_) (fun _ => ?_) | refine vIfQ_of (fun _ => ?_) (fun _ => ?_) | refine vIfV_of (fun _ => ?_) (fun _ => ?_) | refine And.intro (by omega) ?_ | refine drawn_q ?_ | fail)
    refine vc_loop W47_1 (fun j : Nat => [(3, .int .u32 ((stN j i : Nat) : Int)), (9, .int .i64 (j : Int))])
      (fun j w' => j ≤ 4 ∧ w' = w3) (fun j => 4 - j) 0 (by decide) ?_ ?_ ?_
    · simp (disch := omega) only [push_cast, ↓reduceIte, Nat.reduceEqDiff, Int.reduceToNat, Nat.reducePow, Int.reducePow, Int.reduceNeg, Nat.reduceMul, Int.reduceMul, Int.reduceAdd, Int.reduceSub, Nat.reduceAdd, Nat.reduceSub, Nat.reduceLeDiff, Int.reduceLT, Int.reduceLE, Int.reduceEq, Int.reduceMod, Int.reduceDiv, reduceCtorEq, not_true_eq_false, not_false_eq_true]
      rfl
    · exact ⟨by omega, rfl⟩
    rintro j uu w0 ⟨hj, hw⟩
    obtain rfl := hw.symm
    have hlt := stN_lt j (x := i) (by omega)
    by_cases hj' : j < 4
    · have hst := st_i hlt
      have hs := stN_succ j i
      rw [← hs] at hst
      generalize stN j i = X at *
      repeat' (first | (simp (disch := omega) only [push_cast, ↓reduceIte, Nat.reduceEqDiff, Int.reduceToNat, Nat.reducePow, Int.reducePow, Int.reduceNeg, Nat.reduceMul, Int.reduceMul, Int.reduceAdd, Int.reduceSub, Nat.reduceAdd, Nat.reduceSub, Nat.reduceLeDiff, Int.reduceLT, Int.reduceLE, Int.reduceEq, Int.reduceMod, Int.reduceDiv, reduceCtorEq, not_true_eq_false, not_false_eq_true, hst]) | refine vIfE_of (fun _ => ?_) (fun _ => ?_) | refine vIfD_of (fun _ => ?_) (fun _ => ?_) | refine vIfQ_of (fun _ => ?_) (fun _ => ?_) | refine vIfV_of (fun _ => ?_) (fun _ => ?_) | refine And.intro (by omega) ?_ | refine drawn_q ?_ | fail)
      exact ⟨rfl, j + 1, by simp (disch := omega) only [push_cast, ↓reduceIte, Nat.reduceEqDiff, Int.reduceToNat, Nat.reducePow, Int.reducePow, Int.reduceNeg, Nat.reduceMul, Int.reduceMul, Int.reduceAdd, Int.reduceSub, Nat.reduceAdd, Nat.reduceSub, Nat.reduceLeDiff, Int.reduceLT, Int.reduceLE, Int.reduceEq, Int.reduceMod, Int.reduceDiv, reduceCtorEq, not_true_eq_false, not_false_eq_true], ⟨by omega, rfl⟩, by simp; omega⟩
    · have e : j = 4 := by omega
      subst e
      have B1' := B1.setL (i := i) (u32v (stN 4 i))
      rw [tbl_set hi'] at B1'
      have hfz := B1.frozen i
      have hce : ∃ y, w3.cell? ⟨k1, i, none⟩ = some y := by
        rw [B1.cell]; exact ⟨(tpad i)[i]'(by rw [tpad_len hi]; omega), by simp⟩
      have g1 := chg_setCell (i := i) w3 (ks := [k1]) (k := k1) (by simp) (u32v (stN 4 i))
      unfold u32v at *
      generalize stN 4 i = X at *
      repeat' (first | (simp (disch := omega) only [push_cast, ↓reduceIte, Nat.reduceEqDiff, Int.reduceToNat, Nat.reducePow, Int.reducePow, Int.reduceNeg, Nat.reduceMul, Int.reduceMul, Int.reduceAdd, Int.reduceSub, Nat.reduceAdd, Nat.reduceSub, Nat.reduceLeDiff, Int.reduceLT, Int.reduceLE, Int.reduceEq, Int.reduceMod, Int.reduceDiv, reduceCtorEq, not_true_eq_false, not_false_eq_true, addr_add_eq, Nat.zero_add, hfz]) | refine vIfE_of (fun _ => ?_) (fun _ => ?_) | refine vIfD_of (fun _ => ?_) (fun _ => ?_) | refine vIfQ_of (fun _ => ?_) (fun _ => ?_) | refine vIfV_of (fun _ => ?_) (fun _ => ?_) | refine And.intro (by omega) ?_ | refine drawn_q ?_ | fail)
      exact ⟨rfl, i + 1, by simp (disch := omega) only [push_cast, ↓reduceIte, Nat.reduceEqDiff, Int.reduceToNat, Nat.reducePow, Int.reducePow, Int.reduceNeg, Nat.reduceMul, Int.reduceMul, Int.reduceAdd, Int.reduceSub, Nat.reduceAdd, Nat.reduceSub, Nat.reduceLeDiff, Int.reduceLT, Int.reduceLE, Int.reduceEq, Int.reduceMod, Int.reduceDiv, reduceCtorEq, not_true_eq_false, not_false_eq_true], ⟨by omega, g1.later hl3 (by simp; omega), B0.chg g1 (by simp; omega), B1'⟩, by simp; omega⟩
  · have e : i = 16 := by omega
    subst e
    rw [tpad_end] at B1
    have hcs := B1.cellsAt
    have h16 : (tbl.map u32v).length = 16 := rfl
    rw [h16] at hcs
    repeat' (first | (simp (disch := omega) only [push_cast, ↓reduceIte, Nat.reduceEqDiff, Int.reduceToNat, Nat.reducePow, Int.reducePow, Int.reduceNeg, Nat.reduceMul, Int.reduceMul, Int.reduceAdd, Int.reduceSub, Nat.reduceAdd, Nat.reduceSub, Nat.reduceLeDiff, Int.reduceLT, Int.reduceLE, Int.reduceEq, Int.reduceMod, Int.reduceDiv, reduceCtorEq, not_true_eq_false, not_false_eq_true, hcs]) | refine vIfE_of (fun _ => ?_) (fun _ => ?_) | refine vIfD_of (fun _ => ?_) (fun _ => ?_) | refine vIfQ_of (fun _ => ?_) (fun _ => ?_) | refine vIfV_of (fun _ => ?_) (fun _ => ?_) | refine And.intro (by omega) ?_ | refine drawn_q ?_ | fail)
    refine vStore_blk B0 rfl rfl tbl_one ?_
    intro w4 B4 g4
    repeat' (first | (simp (disch := omega) only [push_cast, ↓reduceIte, Nat.reduceEqDiff, Int.reduceToNat, Nat.reducePow, Int.reducePow, Int.reduceNeg, Nat.reduceMul, Int.reduceMul, Int.reduceAdd, Int.reduceSub, Nat.reduceAdd, Nat.reduceSub, Nat.reduceLeDiff, Int.reduceLT, Int.reduceLE, Int.reduceEq, Int.reduceMod, Int.reduceDiv, reduceCtorEq, not_true_eq_false, not_false_eq_true]) | refine vIfE_of (fun _ => ?_) (fun _ => ?_) | refine vIfD_of (fun _ => ?_) (fun _ => ?_) | refine vIfQ_of (fun _ => ?_) (fun _ => ?_) | refine vIfV_of (fun _ => ?_) (fun _ => ?_) | refine And.intro (by omega) ?_ | refine drawn_q ?_ | fail)
    refine resK_agg (ad := ⟨w.heap.size, 0, none⟩) (by simp (disch := omega) only [push_cast, ↓reduceIte, Nat.reduceEqDiff, Int.reduceToNat, Nat.reducePow, Int.reducePow, Int.reduceNeg, Nat.reduceMul, Int.reduceMul, Int.reduceAdd, Int.reduceSub, Nat.reduceAdd, Nat.reduceSub, Nat.reduceLeDiff, Int.reduceLT, Int.reduceLE, Int.reduceEq, Int.reduceMod, Int.reduceDiv, reduceCtorEq, not_true_eq_false, not_false_eq_true]) Try.underlying67 sz67 B4.cellsAt ⟨rfl, g4.later hl3 (by simp)⟩
theorem xor_u32 {a b : Nat} (ha : a < 4294967296) (hb : b < 4294967296) : a ^^^ b < 4294967296 := Nat.xor_lt_two_pow (n := 32) ha hb
set_option maxRecDepth 100000 in
theorem sum_c (v : Value) (l : List UInt8) (w : World) (h : Sl w v (l.map u8v)) : FnC Try.prog 28 #[v] w fun v w' => v = .int .u32 (sum l : Nat) ∧ Later w w' := by
  obtain ⟨o, c, rfl, g1, g2, h, g3⟩ := h.openM
  refine enter28 _ ?_
  unfold B28
  repeat' (first | (simp (disch := omega) only [push_cast, ↓reduceIte, Nat.reduceEqDiff, Int.reduceToNat, Nat.reducePow, Int.reducePow, Int.reduceNeg, Nat.reduceMul, Int.reduceMul, Int.reduceAdd, Int.reduceSub, Nat.reduceAdd, Nat.reduceSub, Nat.reduceLeDiff, Int.reduceLT, Int.reduceLE, Int.reduceEq, Int.reduceMod, Int.reduceDiv, reduceCtorEq, not_true_eq_false, not_false_eq_true]) | refine vIfE_of (fun _ => ?_) (fun _ => ?_) | refine vIfD_of (fun _ => ?_) (fun _ => ?_) | refine vIfQ_of (fun _ => ?_) (fun _ => ?_) | refine vIfV_of (fun _ => ?_) (fun _ => ?_) | refine And.intro (by omega) ?_ | refine drawn_q ?_ | fail)
  refine (table_c w).mono ?_
  rintro _ w1 ⟨rfl, hl1⟩
  repeat' (first | (simp (disch := omega) only [push_cast, ↓reduceIte, Nat.reduceEqDiff, Int.reduceToNat, Nat.reducePow, Int.reducePow, Int.reduceNeg, Nat.reduceMul, Int.reduceMul, Int.reduceAdd, Int.reduceSub, Nat.reduceAdd, Nat.reduceSub, Nat.reduceLeDiff, Int.reduceLT, Int.reduceLE, Int.reduceEq, Int.reduceMod, Int.reduceDiv, reduceCtorEq, not_true_eq_false, not_false_eq_true]) | refine vIfE_of (fun _ => ?_) (fun _ => ?_) | refine vIfD_of (fun _ => ?_) (fun _ => ?_) | refine vIfQ_of (fun _ => ?_) (fun _ => ?_) | refine vIfV_of (fun _ => ?_) (fun _ => ?_) | refine And.intro (by omega) ?_ | refine drawn_q ?_ | fail)
  have e0 : #[Value.int .u32 0, .int .u32 0, .int .u32 0, .int .u32 0, .int .u32 0, .int .u32 0, .int .u32 0, .int .u32 0, .int .u32 0, .int .u32 0, .int .u32 0, .int .u32 0, .int .u32 0, .int .u32 0, .int .u32 0, .int .u32 0] = (tpad 0).toArray := rfl
  rw [e0]
  have B1 := Blk.new w1 (tpad 0).toArray 67
  have hl2 := later_alloc w1 (.cells (tpad 0).toArray 67)
  generalize w1.alloc (.cells (tpad 0).toArray 67) = w2 at *
  refine vStore_blk B1 rfl rfl tbl_one ?_
  intro w3 B3 g3
  have hl3 : Later w w3 := hl1.trans (g3.later hl2 (by simp))
  have ht : ∀ i, i < 16 → w3.cell? ⟨w1.heap.size, i, none⟩ = some (u32v (stN 4 i)) := by
    intro i hi
    rw [B3.cell]; simp [tbl_at hi]
  generalize w1.heap.size = k at *
  repeat' (first | (simp (disch := omega) only [push_cast, ↓reduceIte, Nat.reduceEqDiff, Int.reduceToNat, Nat.reducePow, Int.reducePow, Int.reduceNeg, Nat.reduceMul, Int.reduceMul, Int.reduceAdd, Int.reduceSub, Nat.reduceAdd, Nat.reduceSub, Nat.reduceLeDiff, Int.reduceLT, Int.reduceLE, Int.reduceEq, Int.reduceMod, Int.reduceDiv, reduceCtorEq, not_true_eq_false, not_false_eq_true]) | refine vIfE_of (fun _ => ?_) (fun _ => ?_) | refine vIfD_of (fun _ => ?_) (fun _ => ?_) | refine vIfQ_of (fun _ => ?_) (fun _ => ?_) | refine vIfV_of (fun _ => ?_) (fun _ => ?_) | refine And.intro (by omega) ?_ | refine drawn_q ?_ | fail)
  refine vc_loop W28_0 (fun i : Nat => [(4, .int .u32 ((rem ones (l.take i) : Nat) : Int)), (10, .int .i64 (i : Int))])
    (fun i w' => i ≤ l.length ∧ w' = w3) (fun i => l.length - i) 0 (by decide) ?_ ?_ ?_
  · simp (disch := omega) only [push_cast, ↓reduceIte, Nat.reduceEqDiff, Int.reduceToNat, Nat.reducePow, Int.reducePow, Int.reduceNeg, Nat.reduceMul, Int.reduceMul, Int.reduceAdd, Int.reduceSub, Nat.reduceAdd, Nat.reduceSub, Nat.reduceLeDiff, Int.reduceLT, Int.reduceLE, Int.reduceEq, Int.reduceMod, Int.reduceDiv, reduceCtorEq, not_true_eq_false, not_false_eq_true]
    rfl
  · exact ⟨by omega, rfl⟩
  rintro i uu w0 ⟨hi, hw⟩
  obtain rfl := hw.symm
  have hr := rem_lt (l.take i) (s := ones) (by decide)
  by_cases hi' : i < l.length
  · obtain ⟨a, rfl⟩ := h.some hi'
    have hc := (h.later hl3).at8 hi'
    have htk := take_snoc l i hi'
    have hu := u8_lt l[i]
    have hstep : rem ones (l.take (i + 1)) = stN 8 (rem ones (l.take i) ^^^ l[i].toNat) := by
      rw [htk, rem_append]; rfl
    generalize rem ones (l.take i) = s at *
    have hx := bit_u32_xor s l[i].toNat hr (by omega)
    have hxl := xor_u32 hr (show l[i].toNat < 4294967296 by omega)
    generalize hX : s ^^^ l[i].toNat = X at *
    repeat' (first | (simp (disch := omega) only [push_cast, ↓reduceIte, Nat.reduceEqDiff, Int.reduceToNat, Nat.reducePow, Int.reducePow, Int.reduceNeg, Nat.reduceMul, Int.reduceMul, Int.reduceAdd, Int.reduceSub, Nat.reduceAdd, Nat.reduceSub, Nat.reduceLeDiff, Int.reduceLT, Int.reduceLE, Int.reduceEq, Int.reduceMod, Int.reduceDiv, reduceCtorEq, not_true_eq_false, not_false_eq_true, hc, hx]) | refine vIfE_of (fun _ => ?_) (fun _ => ?_) | refine vIfD_of (fun _ => ?_) (fun _ => ?_) | refine vIfQ_of (fun _ => ?_) (fun _ => ?_) | refine vIfV_of (fun _ => ?_) (fun _ => ?_) | refine And.intro (by omega) ?_ | refine drawn_q ?_ | fail)
    refine vc_loop W28_1 (fun j : Nat => [(4, .int .u32 ((stN (4 * j) X : Nat) : Int)), (18, .int .i64 (j : Int))])
      (fun j w' => j ≤ 2 ∧ w' = w3) (fun j => 2 - j) 0 (by decide) ?_ ?_ ?_
    · simp (disch := omega) only [push_cast, ↓reduceIte, Nat.reduceEqDiff, Int.reduceToNat, Nat.reducePow, Int.reducePow, Int.reduceNeg, Nat.reduceMul, Int.reduceMul, Int.reduceAdd, Int.reduceSub, Nat.reduceAdd, Nat.reduceSub, Nat.reduceLeDiff, Int.reduceLT, Int.reduceLE, Int.reduceEq, Int.reduceMod, Int.reduceDiv, reduceCtorEq, not_true_eq_false, not_false_eq_true]
      rfl
    · exact ⟨by omega, rfl⟩
    rintro j uu w0 ⟨hj, hw⟩
    obtain rfl := hw.symm
    have hlt := stN_lt (4 * j) hxl
    have hs4 := stN_add (4 * j) 4 X
    have e8 : 4 * j + 4 = 4 * (j + 1) := by omega
    rw [e8, stN_four] at hs4
    generalize hY : stN (4 * j) X = Y at *
    have hm : Y % 16 < 16 := Nat.mod_lt _ (by omega)
    have ha := bit_u32_and Y 15 hlt (by omega)
    have e15 := Nat.and_two_pow_sub_one_eq_mod Y 4
    have e15' : Y &&& 15 = Y % 16 := e15
    rw [e15'] at ha
    have hcell := ht (Y % 16) hm
    unfold u32v at hcell
    have hl4 := stN_lt 4 (x := Y % 16) (by omega)
    have hx2 := bit_u32_xor (Y / 16) (stN 4 (Y % 16)) (by omega) hl4
    rw [← hs4] at hx2
    generalize stN 4 (Y % 16) = Z at *
    generalize Y % 16 = M at *
    have hx2' : bitI .xor .u32 ((Y : Int) / 16) (Z : Int) = ((stN (4 * (j + 1)) X : Nat) : Int) := hx2
    have ha' : bitI .and .u32 (Y : Int) 15 = (M : Int) := ha
    by_cases hj' : j < 2
    · repeat' (first | (simp (disch := omega) only [push_cast, ↓reduceIte, Nat.reduceEqDiff, Int.reduceToNat, Nat.reducePow, Int.reducePow, Int.reduceNeg, Nat.reduceMul, Int.reduceMul, Int.reduceAdd, Int.reduceSub, Nat.reduceAdd, Nat.reduceSub, Nat.reduceLeDiff, Int.reduceLT, Int.reduceLE, Int.reduceEq, Int.reduceMod, Int.reduceDiv, reduceCtorEq, not_true_eq_false, not_false_eq_true, ha', addr_add_eq, Nat.zero_add, hcell, hx2']) | refine vIfE_of (fun _ => ?_) (fun _ => ?_) | refine vIfD_of (fun _ => ?_) (fun _ => ?_) | refine vIfQ_of (fun _ => ?_) (fun _ => ?_) | refine vIfV_of (fun _ => ?_) (fun _ => ?_) | refine And.intro (by omega) ?_ | refine drawn_q ?_ | fail)
      exact ⟨rfl, j + 1, by simp (disch := omega) only [push_cast, ↓reduceIte, Nat.reduceEqDiff, Int.reduceToNat, Nat.reducePow, Int.reducePow, Int.reduceNeg, Nat.reduceMul, Int.reduceMul, Int.reduceAdd, Int.reduceSub, Nat.reduceAdd, Nat.reduceSub, Nat.reduceLeDiff, Int.reduceLT, Int.reduceLE, Int.reduceEq, Int.reduceMod, Int.reduceDiv, reduceCtorEq, not_true_eq_false, not_false_eq_true], ⟨by omega, rfl⟩, by simp; omega⟩
    · have e : j = 2 := by omega
      subst e
      have hY' : stN 8 X = Y := hY
      rw [hY'] at hstep
      repeat' (first | (simp (disch := omega) only [push_cast, ↓reduceIte, Nat.reduceEqDiff, Int.reduceToNat, Nat.reducePow, Int.reducePow, Int.reduceNeg, Nat.reduceMul, Int.reduceMul, Int.reduceAdd, Int.reduceSub, Nat.reduceAdd, Nat.reduceSub, Nat.reduceLeDiff, Int.reduceLT, Int.reduceLE, Int.reduceEq, Int.reduceMod, Int.reduceDiv, reduceCtorEq, not_true_eq_false, not_false_eq_true]) | refine vIfE_of (fun _ => ?_) (fun _ => ?_) | refine vIfD_of (fun _ => ?_) (fun _ => ?_) | refine vIfQ_of (fun _ => ?_) (fun _ => ?_) | refine vIfV_of (fun _ => ?_) (fun _ => ?_) | refine And.intro (by omega) ?_ | refine drawn_q ?_ | fail)
      exact ⟨rfl, i + 1, by simp (disch := omega) only [push_cast, ↓reduceIte, Nat.reduceEqDiff, Int.reduceToNat, Nat.reducePow, Int.reducePow, Int.reduceNeg, Nat.reduceMul, Int.reduceMul, Int.reduceAdd, Int.reduceSub, Nat.reduceAdd, Nat.reduceSub, Nat.reduceLeDiff, Int.reduceLT, Int.reduceLE, Int.reduceEq, Int.reduceMod, Int.reduceDiv, reduceCtorEq, not_true_eq_false, not_false_eq_true, hstep], ⟨by omega, rfl⟩, by simp; omega⟩
  · have e : i = l.length := by omega
    subst e
    rw [List.take_length] at hr ⊢
    have hx := bit_u32_xor ones (rem ones l) (by decide) hr
    rw [← compl_xor hr] at hx
    have hx' : bitI .xor .u32 (if IntKind.u32.signed = true then -1 else IntKind.u32.max) (rem ones l : Int) = ((sum l : Nat) : Int) := hx
    repeat' (first | (simp (disch := omega) only [push_cast, ↓reduceIte, Nat.reduceEqDiff, Int.reduceToNat, Nat.reducePow, Int.reducePow, Int.reduceNeg, Nat.reduceMul, Int.reduceMul, Int.reduceAdd, Int.reduceSub, Nat.reduceAdd, Nat.reduceSub, Nat.reduceLeDiff, Int.reduceLT, Int.reduceLE, Int.reduceEq, Int.reduceMod, Int.reduceDiv, reduceCtorEq, not_true_eq_false, not_false_eq_true, hx']) | refine vIfE_of (fun _ => ?_) (fun _ => ?_) | refine vIfD_of (fun _ => ?_) (fun _ => ?_) | refine vIfQ_of (fun _ => ?_) (fun _ => ?_) | refine vIfV_of (fun _ => ?_) (fun _ => ?_) | refine And.intro (by omega) ?_ | refine drawn_q ?_ | fail)
    exact hl3
set_option maxRecDepth 100000 in
theorem rSum_c (v : Value) (l : List UInt8) (w : World) (h : Sl w v (l.map u8v)) : FnC Try.prog 33 #[v] w fun v w' => v = .int .u32 (sum l : Nat) ∧ w' = w := by
  obtain ⟨o, c, rfl, g1, g2, h, g3⟩ := h.openM
  refine enter33 _ ?_
  unfold B33
  repeat' (first | (simp (disch := omega) only [push_cast, ↓reduceIte, Nat.reduceEqDiff, Int.reduceToNat, Nat.reducePow, Int.reducePow, Int.reduceNeg, Nat.reduceMul, Int.reduceMul, Int.reduceAdd, Int.reduceSub, Nat.reduceAdd, Nat.reduceSub, Nat.reduceLeDiff, Int.reduceLT, Int.reduceLE, Int.reduceEq, Int.reduceMod, Int.reduceDiv, reduceCtorEq, not_true_eq_false, not_false_eq_true]) | refine vIfE_of (fun _ => ?_) (fun _ => ?_) | refine vIfD_of (fun _ => ?_) (fun _ => ?_) | refine vIfQ_of (fun _ => ?_) (fun _ => ?_) | refine vIfV_of (fun _ => ?_) (fun _ => ?_) | refine And.intro (by omega) ?_ | refine drawn_q ?_ | fail)
  refine vc_loop W33_0 (fun i : Nat => [(3, .int .u32 ((rem ones (l.take i) : Nat) : Int)), (4, .int .i64 (i : Int))])
    (fun i w' => i ≤ l.length ∧ w' = w) (fun i => l.length - i) 0 (by decide) ?_ ?_ ?_
  · simp (disch := omega) only [push_cast, ↓reduceIte, Nat.reduceEqDiff, Int.reduceToNat, Nat.reducePow, Int.reducePow, Int.reduceNeg, Nat.reduceMul, Int.reduceMul, Int.reduceAdd, Int.reduceSub, Nat.reduceAdd, Nat.reduceSub, Nat.reduceLeDiff, Int.reduceLT, Int.reduceLE, Int.reduceEq, Int.reduceMod, Int.reduceDiv, reduceCtorEq, not_true_eq_false, not_false_eq_true]
    rfl
  · exact ⟨by omega, rfl⟩
  rintro i uu w0 ⟨hi, hw⟩
  obtain rfl := hw.symm
  have hr := rem_lt (l.take i) (s := ones) (by decide)
  by_cases hi' : i < l.length
  · obtain ⟨a, rfl⟩ := h.some hi'
    have hc := h.at8 hi'
    have htk := take_snoc l i hi'
    have hu := u8_lt l[i]
    have hstep : rem ones (l.take (i + 1)) = inBits 8 (rem ones (l.take i)) l[i].toNat := by
      rw [htk, rem_append, inBits_byte _ _ hu]; rfl
    generalize rem ones (l.take i) = s at *
    generalize l[i].toNat = b at *
    repeat' (first | (simp (disch := omega) only [push_cast, ↓reduceIte, Nat.reduceEqDiff, Int.reduceToNat, Nat.reducePow, Int.reducePow, Int.reduceNeg, Nat.reduceMul, Int.reduceMul, Int.reduceAdd, Int.reduceSub, Nat.reduceAdd, Nat.reduceSub, Nat.reduceLeDiff, Int.reduceLT, Int.reduceLE, Int.reduceEq, Int.reduceMod, Int.reduceDiv, reduceCtorEq, not_true_eq_false, not_false_eq_true]) | refine vIfE_of (fun _ => ?_) (fun _ => ?_) | refine vIfD_of (fun _ => ?_) (fun _ => ?_) | refine vIfQ_of (fun _ => ?_) (fun _ => ?_) | refine vIfV_of (fun _ => ?_) (fun _ => ?_) | refine And.intro (by omega) ?_ | refine drawn_q ?_ | fail)
    refine vc_loop W33_1 (fun j : Nat => [(3, .int .u32 ((inBits j s b : Nat) : Int)), (5, .int .i64 (j : Int))])
      (fun j w' => j ≤ 8 ∧ w' = w) (fun j => 8 - j) 0 (by decide) ?_ ?_ ?_
    · simp (disch := omega) only [push_cast, ↓reduceIte, Nat.reduceEqDiff, Int.reduceToNat, Nat.reducePow, Int.reducePow, Int.reduceNeg, Nat.reduceMul, Int.reduceMul, Int.reduceAdd, Int.reduceSub, Nat.reduceAdd, Nat.reduceSub, Nat.reduceLeDiff, Int.reduceLT, Int.reduceLE, Int.reduceEq, Int.reduceMod, Int.reduceDiv, reduceCtorEq, not_true_eq_false, not_false_eq_true]
      rfl
    · exact ⟨by omega, rfl⟩
    rintro j uu w0 ⟨hj, hw⟩
    obtain rfl := hw.symm
    have hlt := inBits_lt j b hr
    have hsu := inBits_succ j s b
    have hfd : (b : Int).fdiv (2 ^ j) = ((b / 2 ^ j : Nat) : Int) := by
      have e : (2 : Int) ^ j = ((2 ^ j : Nat) : Int) := by rw [Int.natCast_pow]; rfl
      rw [e, ← Int.ofNat_fdiv]
    have hbl : b / 2 ^ j ≤ b := Nat.div_le_self _ _
    have hx := bit_u32_xor (inBits j s b / 2) poly (by omega) (by decide)
    generalize b / 2 ^ j = B at *
    have hx' : bitI .xor .u32 ((inBits j s b : Int) / 2) 2197175160 = ((inBits j s b / 2 ^^^ poly : Nat) : Int) := hx
    by_cases hj' : j < 8
    · by_cases hbit : inBits j s b % 2 = B % 2
      · rw [if_pos hbit, Nat.xor_zero] at hsu
        generalize inBits j s b = Y at *
        repeat' (first | (simp (disch := omega) only [push_cast, ↓reduceIte, Nat.reduceEqDiff, Int.reduceToNat, Nat.reducePow, Int.reducePow, Int.reduceNeg, Nat.reduceMul, Int.reduceMul, Int.reduceAdd, Int.reduceSub, Nat.reduceAdd, Nat.reduceSub, Nat.reduceLeDiff, Int.reduceLT, Int.reduceLE, Int.reduceEq, Int.reduceMod, Int.reduceDiv, reduceCtorEq, not_true_eq_false, not_false_eq_true, hc, hfd]) | refine vIfE_of (fun _ => ?_) (fun _ => ?_) | refine vIfD_of (fun _ => ?_) (fun _ => ?_) | refine vIfQ_of (fun _ => ?_) (fun _ => ?_) | refine vIfV_of (fun _ => ?_) (fun _ => ?_) | refine And.intro (by omega) ?_ | refine drawn_q ?_ | fail)
        exact ⟨rfl, j + 1, by simp (disch := omega) only [push_cast, ↓reduceIte, Nat.reduceEqDiff, Int.reduceToNat, Nat.reducePow, Int.reducePow, Int.reduceNeg, Nat.reduceMul, Int.reduceMul, Int.reduceAdd, Int.reduceSub, Nat.reduceAdd, Nat.reduceSub, Nat.reduceLeDiff, Int.reduceLT, Int.reduceLE, Int.reduceEq, Int.reduceMod, Int.reduceDiv, reduceCtorEq, not_true_eq_false, not_false_eq_true, hsu], ⟨by omega, rfl⟩, by simp; omega⟩
      · rw [if_neg hbit] at hsu
        rw [← hsu] at hx'
        generalize inBits j s b = Y at *
        repeat' (first | (simp (disch := omega) only [push_cast, ↓reduceIte, Nat.reduceEqDiff, Int.reduceToNat, Nat.reducePow, Int.reducePow, Int.reduceNeg, Nat.reduceMul, Int.reduceMul, Int.reduceAdd, Int.reduceSub, Nat.reduceAdd, Nat.reduceSub, Nat.reduceLeDiff, Int.reduceLT, Int.reduceLE, Int.reduceEq, Int.reduceMod, Int.reduceDiv, reduceCtorEq, not_true_eq_false, not_false_eq_true, hc, hfd, hx']) | refine vIfE_of (fun _ => ?_) (fun _ => ?_) | refine vIfD_of (fun _ => ?_) (fun _ => ?_) | refine vIfQ_of (fun _ => ?_) (fun _ => ?_) | refine vIfV_of (fun _ => ?_) (fun _ => ?_) | refine And.intro (by omega) ?_ | refine drawn_q ?_ | fail)
        exact ⟨rfl, j + 1, by simp (disch := omega) only [push_cast, ↓reduceIte, Nat.reduceEqDiff, Int.reduceToNat, Nat.reducePow, Int.reducePow, Int.reduceNeg, Nat.reduceMul, Int.reduceMul, Int.reduceAdd, Int.reduceSub, Nat.reduceAdd, Nat.reduceSub, Nat.reduceLeDiff, Int.reduceLT, Int.reduceLE, Int.reduceEq, Int.reduceMod, Int.reduceDiv, reduceCtorEq, not_true_eq_false, not_false_eq_true], ⟨by omega, rfl⟩, by simp; omega⟩
    · have e : j = 8 := by omega
      subst e
      rw [← hstep]
      repeat' (first | (simp (disch := omega) only [push_cast, ↓reduceIte, Nat.reduceEqDiff, Int.reduceToNat, Nat.reducePow, Int.reducePow, Int.reduceNeg, Nat.reduceMul, Int.reduceMul, Int.reduceAdd, Int.reduceSub, Nat.reduceAdd, Nat.reduceSub, Nat.reduceLeDiff, Int.reduceLT, Int.reduceLE, Int.reduceEq, Int.reduceMod, Int.reduceDiv, reduceCtorEq, not_true_eq_false, not_false_eq_true]) | refine vIfE_of (fun _ => ?_) (fun _ => ?_) | refine vIfD_of (fun _ => ?_) (fun _ => ?_) | refine vIfQ_of (fun _ => ?_) (fun _ => ?_) | refine vIfV_of (fun _ => ?_) (fun _ => ?_) | refine And.intro (by omega) ?_ | refine drawn_q ?_ | fail)
      exact ⟨rfl, i + 1, by simp (disch := omega) only [push_cast, ↓reduceIte, Nat.reduceEqDiff, Int.reduceToNat, Nat.reducePow, Int.reducePow, Int.reduceNeg, Nat.reduceMul, Int.reduceMul, Int.reduceAdd, Int.reduceSub, Nat.reduceAdd, Nat.reduceSub, Nat.reduceLeDiff, Int.reduceLT, Int.reduceLE, Int.reduceEq, Int.reduceMod, Int.reduceDiv, reduceCtorEq, not_true_eq_false, not_false_eq_true], ⟨by omega, rfl⟩, by simp; omega⟩
  · have e : i = l.length := by omega
    subst e
    rw [List.take_length] at hr ⊢
    have hs : 4294967295 - ((rem ones l : Nat) : Int) = ((sum l : Nat) : Int) := by unfold sum ones at *; omega
    repeat' (first | (simp (disch := omega) only [push_cast, ↓reduceIte, Nat.reduceEqDiff, Int.reduceToNat, Nat.reducePow, Int.reducePow, Int.reduceNeg, Nat.reduceMul, Int.reduceMul, Int.reduceAdd, Int.reduceSub, Nat.reduceAdd, Nat.reduceSub, Nat.reduceLeDiff, Int.reduceLT, Int.reduceLE, Int.reduceEq, Int.reduceMod, Int.reduceDiv, reduceCtorEq, not_true_eq_false, not_false_eq_true, hs]) | refine vIfE_of (fun _ => ?_) (fun _ => ?_) | refine vIfD_of (fun _ => ?_) (fun _ => ?_) | refine vIfQ_of (fun _ => ?_) (fun _ => ?_) | refine vIfV_of (fun _ => ?_) (fun _ => ?_) | refine And.intro (by omega) ?_ | refine drawn_q ?_ | fail)
end Go.Proofs.Ytkchefbnamiikaa
