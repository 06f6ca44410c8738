/- CheckTurned holds for every input: a block of whose bytes bits within 32 beside one another are turned is none; nor is one that is cut. -/
import Derived.Test.YtkchefbnamiikaaRows
import Derived.Test.YtkchefbnamiikaaChk4
import Derived.Test.YtkchefbnamiikaaCodesCL
import Derived.Test.YtkchefbnamiikaaRow
set_option linter.unusedSimpArgs false
namespace Go.Proofs.Ytkchefbnamiikaa.checkTurned
open Go.Vc Go.Chk Go.Zig Go.ChangeShapes Go.WideShapes Go.ChangeAt Go.RowKit
theorem u8_flip8 : ∀ (c : Fin 256) (m : Fin 8), bitI .xor .u8 (c.val : Int) (IntKind.u8.wrap (2 ^ m.val)) = ((c.val ^^^ 2 ^ m.val : Nat) : Int) := by decide +kernel
theorem u8_flip (c : UInt8) (m : Nat) (h : m < 8) : bitI .xor .u8 (c.toNat : Int) (IntKind.u8.wrap (2 ^ m)) = ((c.toNat ^^^ 2 ^ m : Nat) : Int) := u8_flip8 ⟨c.toNat, c.toNat_lt⟩ ⟨m, h⟩
theorem shift_bit (W i : Nat) : ((W : Int).fdiv (2 ^ i)).tmod 2 = ((W / 2 ^ i % 2 : Nat) : Int) := by
  have e : ((2 : Int) ^ i) = ((2 ^ i : Nat) : Int) := by rw [Int.natCast_pow]; rfl
  rw [e, ← Int.ofNat_fdiv, Int.ofNat_tmod]; rfl
set_option maxRecDepth 100000 in
theorem law_c (v : Value) (b : List UInt8) (i0 i1 wi : Int) (w : World) (h : Sl w v (b.map u8v)) (h0 : -9223372036854775808 ≤ i0 ∧ i0 ≤ 9223372036854775807) (h1 : -9223372036854775808 ≤ i1 ∧ i1 ≤ 9223372036854775807) (h2 : 0 ≤ wi ∧ wi ≤ 4294967295) :
    FnC Try.prog 8 #[v, .agg #[.int .i64 i0, .int .i64 i1], .int .u32 wi] w fun v w' => v = .bool true ∧ Later w w' := by
  have hs := h
  obtain ⟨o, c, rfl, g1, g2, h, _⟩ := h.openM
  refine enter8 _ _ _ ?_
  unfold B8
  have ecs : (Value.agg #[.int .i64 i0, .int .i64 i1]).cells = #[.int .i64 i0, .int .i64 i1] := rfl
  repeat' (first | (simp (disch := omega) only [push_cast, ↓reduceIte, Nat.reduceEqDiff, Int.reduceToNat, Nat.reducePow, Int.reducePow, Int.reduceNeg, Nat.reduceMul, Int.reduceMul, Int.reduceAdd, Int.reduceSub, Nat.reduceAdd, Nat.reduceSub, Nat.reduceLeDiff, Int.reduceLT, Int.reduceLE, Int.reduceEq, Int.reduceMod, Int.reduceDiv, reduceCtorEq, not_true_eq_false, not_false_eq_true, ecs]) | refine vIfE_of (fun _ => ?_) (fun _ => ?_) | refine vIfD_of (fun _ => ?_) (fun _ => ?_) | refine vIfQ_of (fun _ => ?_) (fun _ => ?_) | refine vIfV_of (fun _ => ?_) (fun _ => ?_) | refine And.intro (by omega) ?_ | refine drawn_q ?_ | fail)
  have B0 := Blk.new w #[.int .i64 i0, .int .i64 i1] 35
  have hl0 := later_alloc w (.cells #[.int .i64 i0, .int .i64 i1] 35)
  generalize w.alloc (.cells #[.int .i64 i0, .int .i64 i1] 35) = w0 at *
  have hk0 := B0.lt
  generalize hkk : w.heap.size = k0 at *
  have hs0 := hs.later hl0
  refine (block_c _ b w0 hs0).mono ?_
  rintro _ w1 ⟨hb1, hl1⟩
  have hl01 := hl0.trans hl1
  rcases hb1 with ⟨hbad, rfl⟩ | ⟨hbl, x, rfl, hx⟩
  · repeat' (first | (simp (disch := omega) only [push_cast, ↓reduceIte, Nat.reduceEqDiff, Int.reduceToNat, Nat.reducePow, Int.reducePow, Int.reduceNeg, Nat.reduceMul, Int.reduceMul, Int.reduceAdd, Int.reduceSub, Nat.reduceAdd, Nat.reduceSub, Nat.reduceLeDiff, Int.reduceLT, Int.reduceLE, Int.reduceEq, Int.reduceMod, Int.reduceDiv, reduceCtorEq, not_true_eq_false, not_false_eq_true]) | refine vIfE_of (fun _ => ?_) (fun _ => ?_) | refine vIfD_of (fun _ => ?_) (fun _ => ?_) | refine vIfQ_of (fun _ => ?_) (fun _ => ?_) | refine vIfV_of (fun _ => ?_) (fun _ => ?_) | refine And.intro (by omega) ?_ | refine drawn_q ?_ | fail)
    refine (calive_c w1).mono ?_
    rintro _ w2 ⟨rfl, hl2⟩
    repeat' (first | (simp (disch := omega) only [push_cast, ↓reduceIte, Nat.reduceEqDiff, Int.reduceToNat, Nat.reducePow, Int.reducePow, Int.reduceNeg, Nat.reduceMul, Int.reduceMul, Int.reduceAdd, Int.reduceSub, Nat.reduceAdd, Nat.reduceSub, Nat.reduceLeDiff, Int.reduceLT, Int.reduceLE, Int.reduceEq, Int.reduceMod, Int.reduceDiv, reduceCtorEq, not_true_eq_false, not_false_eq_true]) | refine vIfE_of (fun _ => ?_) (fun _ => ?_) | refine vIfD_of (fun _ => ?_) (fun _ => ?_) | refine vIfQ_of (fun _ => ?_) (fun _ => ?_) | refine vIfV_of (fun _ => ?_) (fun _ => ?_) | refine And.intro (by omega) ?_ | refine drawn_q ?_ | fail)
    exact hl01.trans hl2
  obtain ⟨ox, cx, rfl⟩ := hx.slice
  by_cases hlong : 400 < b.length
  · repeat' (first | (simp (disch := omega) only [push_cast, ↓reduceIte, Nat.reduceEqDiff, Int.reduceToNat, Nat.reducePow, Int.reducePow, Int.reduceNeg, Nat.reduceMul, Int.reduceMul, Int.reduceAdd, Int.reduceSub, Nat.reduceAdd, Nat.reduceSub, Nat.reduceLeDiff, Int.reduceLT, Int.reduceLE, Int.reduceEq, Int.reduceMod, Int.reduceDiv, reduceCtorEq, not_true_eq_false, not_false_eq_true]) | refine vIfE_of (fun _ => ?_) (fun _ => ?_) | refine vIfD_of (fun _ => ?_) (fun _ => ?_) | refine vIfQ_of (fun _ => ?_) (fun _ => ?_) | refine vIfV_of (fun _ => ?_) (fun _ => ?_) | refine And.intro (by omega) ?_ | refine drawn_q ?_ | fail)
    refine (calive_c w1).mono ?_
    rintro _ w2 ⟨rfl, hl2⟩
    repeat' (first | (simp (disch := omega) only [push_cast, ↓reduceIte, Nat.reduceEqDiff, Int.reduceToNat, Nat.reducePow, Int.reducePow, Int.reduceNeg, Nat.reduceMul, Int.reduceMul, Int.reduceAdd, Int.reduceSub, Nat.reduceAdd, Nat.reduceSub, Nat.reduceLeDiff, Int.reduceLT, Int.reduceLE, Int.reduceEq, Int.reduceMod, Int.reduceDiv, reduceCtorEq, not_true_eq_false, not_false_eq_true]) | refine vIfE_of (fun _ => ?_) (fun _ => ?_) | refine vIfD_of (fun _ => ?_) (fun _ => ?_) | refine vIfQ_of (fun _ => ?_) (fun _ => ?_) | refine vIfV_of (fun _ => ?_) (fun _ => ?_) | refine And.intro (by omega) ?_ | refine drawn_q ?_ | fail)
    exact hl01.trans hl2
  have h64 : I64 (b.length : Int) := by unfold I64; omega
  have hz := zi_len h64
  have hbk := blkB_len b
  have hcx : (blkB b).length ≤ cx := hx.sl.len.2.1
  have c1 := (B0.chg (Chg.of_later (ks := []) hl1) (by simp)).cell 1
  have c1 : w1.cell? ⟨k0, 1, none⟩ = some (.int .i64 i1) := c1
  have hn0 : ((blkB b).length : Int) ≠ 0 := by omega
  have ht1 := Int.tmod_lt_of_pos i1 (show 0 < ((blkB b).length : Int) by omega)
  have ht2 := Int.lt_tmod_of_pos i1 (show 0 < ((blkB b).length : Int) by omega)
  generalize hT : i1.tmod ((blkB b).length : Int) = T at *
  by_cases hT0 : T < 0
  · obtain ⟨cut, hc⟩ := Int.eq_ofNat_of_zero_le (show 0 ≤ 0 - T by omega)
    have hcut : cut < (blkB b).length := by omega
    have ew : IntKind.i64.wrap (0 - T) = (cut : Int) := by rw [hc]; exact wrap_i64 (by omega)
    repeat' (first | (simp (disch := omega) only [push_cast, ↓reduceIte, Nat.reduceEqDiff, Int.reduceToNat, Nat.reducePow, Int.reducePow, Int.reduceNeg, Nat.reduceMul, Int.reduceMul, Int.reduceAdd, Int.reduceSub, Nat.reduceAdd, Nat.reduceSub, Nat.reduceLeDiff, Int.reduceLT, Int.reduceLE, Int.reduceEq, Int.reduceMod, Int.reduceDiv, reduceCtorEq, not_true_eq_false, not_false_eq_true, c1, addr_add_eq, Nat.zero_add, hT, ew]) | refine vIfE_of (fun _ => ?_) (fun _ => ?_) | refine vIfD_of (fun _ => ?_) (fun _ => ?_) | refine vIfQ_of (fun _ => ?_) (fun _ => ?_) | refine vIfV_of (fun _ => ?_) (fun _ => ?_) | refine And.intro (by omega) ?_ | refine drawn_q ?_ | fail)
    have hpre := hx.sl.pre (k := cut) (by omega)
    rw [← List.map_take] at hpre
    refine (first_c _ ((blkB b).take cut) w1 hpre (by simp; omega)).mono ?_
    rintro _ w2 ⟨⟨u, rfl, hu⟩, hl2⟩
    have hfc := fsR_none (fst_cut hbl hcut)
    rw [hfc] at hu ⊢
    dsimp only at hu ⊢
    have hl12 := hl01.trans hl2
    have d0 := (B0.chg (Chg.of_later (ks := []) (hl1.trans hl2)) (by simp)).cell 0
    have d0 : w2.cell? ⟨k0, 0, none⟩ = some (.int .i64 i0) := d0
    by_cases hno : wi = 0 ∨ i0 < 0 ∨ 8 * (b.length : Int) - 32 < i0
    · repeat' (first | (simp (disch := omega) only [push_cast, ↓reduceIte, Nat.reduceEqDiff, Int.reduceToNat, Nat.reducePow, Int.reducePow, Int.reduceNeg, Nat.reduceMul, Int.reduceMul, Int.reduceAdd, Int.reduceSub, Nat.reduceAdd, Nat.reduceSub, Nat.reduceLeDiff, Int.reduceLT, Int.reduceLE, Int.reduceEq, Int.reduceMod, Int.reduceDiv, reduceCtorEq, not_true_eq_false, not_false_eq_true, d0, addr_add_eq, Nat.zero_add]) | refine vIfE_of (fun _ => ?_) (fun _ => ?_) | refine vIfD_of (fun _ => ?_) (fun _ => ?_) | refine vIfQ_of (fun _ => ?_) (fun _ => ?_) | refine vIfV_of (fun _ => ?_) (fun _ => ?_) | refine And.intro (by omega) ?_ | refine drawn_q ?_ | fail)
      all_goals first
        | (refine (calive_c w2).mono ?_
           rintro _ w3 ⟨rfl, hl3⟩
           repeat' (first | (simp (disch := omega) only [push_cast, ↓reduceIte, Nat.reduceEqDiff, Int.reduceToNat, Nat.reducePow, Int.reducePow, Int.reduceNeg, Nat.reduceMul, Int.reduceMul, Int.reduceAdd, Int.reduceSub, Nat.reduceAdd, Nat.reduceSub, Nat.reduceLeDiff, Int.reduceLT, Int.reduceLE, Int.reduceEq, Int.reduceMod, Int.reduceDiv, reduceCtorEq, not_true_eq_false, not_false_eq_true]) | refine vIfE_of (fun _ => ?_) (fun _ => ?_) | refine vIfD_of (fun _ => ?_) (fun _ => ?_) | refine vIfQ_of (fun _ => ?_) (fun _ => ?_) | refine vIfV_of (fun _ => ?_) (fun _ => ?_) | refine And.intro (by omega) ?_ | refine drawn_q ?_ | fail)
           exact hl12.trans hl3)
        | (exfalso; omega)
    · -- SAME
      obtain ⟨W, rfl⟩ := Int.eq_ofNat_of_zero_le h2.1
      obtain ⟨I, rfl⟩ := Int.eq_ofNat_of_zero_le (show 0 ≤ i0 by omega)
      have hl02 := hl1.trans hl2
      have hx2 := hx.later hl2
      have hhead : ((blkB b).length : Int) - 4 - (b.length : Int) = ((zi b.length).length : Int) := by omega
      have hz1 : 1 ≤ ((zi (b.length : Int)).length : Int) := by omega
      generalize hZ : (zi (b.length : Int)).length = Z at *
      repeat' (first | (simp (disch := omega) only [push_cast, ↓reduceIte, Nat.reduceEqDiff, Int.reduceToNat, Nat.reducePow, Int.reducePow, Int.reduceNeg, Nat.reduceMul, Int.reduceMul, Int.reduceAdd, Int.reduceSub, Nat.reduceAdd, Nat.reduceSub, Nat.reduceLeDiff, Int.reduceLT, Int.reduceLE, Int.reduceEq, Int.reduceMod, Int.reduceDiv, reduceCtorEq, not_true_eq_false, not_false_eq_true, d0, addr_add_eq, Nat.zero_add, hhead]) | refine vIfE_of (fun _ => ?_) (fun _ => ?_) | refine vIfD_of (fun _ => ?_) (fun _ => ?_) | refine vIfQ_of (fun _ => ?_) (fun _ => ?_) | refine vIfV_of (fun _ => ?_) (fun _ => ?_) | refine And.intro (by omega) ?_ | refine drawn_q ?_ | fail)
      refine vc_loop W8_0 (fun i : Nat => [(14, .int .i64 (i : Int))])
        (fun i w' => i ≤ 32 ∧ Later w0 w' ∧ ∃ q, q.length = (blkB b).length ∧ OwnB w' w0.heap.size 5 (.slice ox (blkB b).length cx) q ∧ q.take Z = zi b.length ∧ q.drop (Z + b.length) = four (sum (zi b.length ++ b)) ∧
          Nib.toN (Nib.bitsB q) = Nib.toN (Nib.bitsB (blkB b)) ^^^ 2 ^ (8 * Z + I) * (W % 2 ^ i)) (fun i => 32 - i) 0 (by decide) ?_ ?_ ?_
      · simp (disch := omega) only [push_cast, ↓reduceIte, Nat.reduceEqDiff, Int.reduceToNat, Nat.reducePow, Int.reducePow, Int.reduceNeg, Nat.reduceMul, Int.reduceMul, Int.reduceAdd, Int.reduceSub, Nat.reduceAdd, Nat.reduceSub, Nat.reduceLeDiff, Int.reduceLT, Int.reduceLE, Int.reduceEq, Int.reduceMod, Int.reduceDiv, reduceCtorEq, not_true_eq_false, not_false_eq_true]
      · refine ⟨by omega, hl02, blkB b, rfl, hx2, ?_, ?_, by simp [Nat.mod_one]⟩
        · unfold blkB; rw [← hZ, List.append_assoc, List.take_left]
        · unfold blkB
          have : Z + b.length = (zi (b.length : Int) ++ b).length := by rw [List.length_append, hZ]
          rw [this, List.drop_left]
      rintro i uu w3 ⟨hi, hl3, q, hq, ho, ht, hd, hbits⟩
      have d0 : w3.cell? ⟨k0, 0, none⟩ = some (.int .i64 I) := (B0.chg (Chg.of_later (ks := []) hl3) (by simp)).cell 0
      have hos := ho.sl
      unfold OwnB at ho
      rw [hq] at ho
      have hstep := burst_step (8 * Z + I) W i
      have hfd := shift_bit W i
      by_cases hi' : i < 32
      · by_cases hbit : W / 2 ^ i % 2 = 1
        · rw [if_pos hbit] at hstep
          have hk : (8 * Z + I + i) / 8 < q.length := by omega
          obtain ⟨ap, rfl⟩ := hos.some hk
          obtain ⟨kp, cs, rfl, hkp, _⟩ := own_blk' ho
          have e0 := hos.at8 hk
          rw [addr_add_eq, Nat.zero_add] at e0
          have hflip := flip_one q (8 * Z + I + i) hk
          have hu := u8_flip q[(8 * Z + I + i) / 8] ((8 * Z + I + i) % 8) (by omega)
          have hx8 : q[(8 * Z + I + i) / 8].toNat ^^^ 2 ^ ((8 * Z + I + i) % 8) < 256 := Nat.xor_lt_two_pow (n := 8) (UInt8.toNat_lt _) (Nat.pow_lt_pow_right (n := 8) (by omega) (by omega))
          have huv := u8v_nat hx8
          generalize hV : q[(8 * Z + I + i) / 8].toNat ^^^ 2 ^ ((8 * Z + I + i) % 8) = V at *
          have ek : (8 * (Z : Int) + (I : Int) + (i : Int)) = ((8 * Z + I + i : Nat) : Int) := by omega
          have e1 : ((8 * (Z : Int) + (I : Int) + (i : Int)) / 8).toNat = (8 * Z + I + i) / 8 := by omega
          have e2 : ((8 * (Z : Int) + (I : Int) + (i : Int)) % 8).toNat = (8 * Z + I + i) % 8 := by omega
          have hfd1 : ((W : Int).fdiv (2 ^ i)).tmod 2 = 1 := by rw [hfd, hbit]; rfl
          obtain ⟨ho5, hce, hfz⟩ := own_set ho (i := (8 * Z + I + i) / 8) (by omega) (.int .u8 (V : Int))
          have g5 := chg_setCell (i := (8 * Z + I + i) / 8) w3 (ks := [kp]) (k := kp) (by simp) (.int .u8 (V : Int))
          rw [← huv, ← List.map_set] at ho5
          rw [huv] at ho5
          repeat' (first | (simp (disch := omega) only [push_cast, ↓reduceIte, Nat.reduceEqDiff, Int.reduceToNat, Nat.reducePow, Int.reducePow, Int.reduceNeg, Nat.reduceMul, Int.reduceMul, Int.reduceAdd, Int.reduceSub, Nat.reduceAdd, Nat.reduceSub, Nat.reduceLeDiff, Int.reduceLT, Int.reduceLE, Int.reduceEq, Int.reduceMod, Int.reduceDiv, reduceCtorEq, not_true_eq_false, not_false_eq_true, hfd1, d0, e0, e1, e2, Int.one_mul, hu, hfz, addr_add_eq, Nat.zero_add]) | refine vIfE_of (fun _ => ?_) (fun _ => ?_) | refine vIfD_of (fun _ => ?_) (fun _ => ?_) | refine vIfQ_of (fun _ => ?_) (fun _ => ?_) | refine vIfV_of (fun _ => ?_) (fun _ => ?_) | refine And.intro (by omega) ?_ | refine drawn_q ?_ | fail)
          refine ⟨rfl, i + 1, by simp (disch := omega) only [push_cast, ↓reduceIte, Nat.reduceEqDiff, Int.reduceToNat, Nat.reducePow, Int.reducePow, Int.reduceNeg, Nat.reduceMul, Int.reduceMul, Int.reduceAdd, Int.reduceSub, Nat.reduceAdd, Nat.reduceSub, Nat.reduceLeDiff, Int.reduceLT, Int.reduceLE, Int.reduceEq, Int.reduceMod, Int.reduceDiv, reduceCtorEq, not_true_eq_false, not_false_eq_true], ⟨by omega, g5.later hl3 (by simpa using hkp), q.set ((8 * Z + I + i) / 8) (UInt8.ofNat V), by simp [hq], ?_, ?_, ?_, ?_⟩, by simp; omega⟩
          · unfold OwnB
            rw [List.length_set, hq]; exact ho5
          · rw [List.take_set_of_le (by omega)]; exact ht
          · rw [List.drop_set_of_lt (by omega)]; exact hd
          · rw [hflip, hbits, hstep, Nat.xor_assoc]
        · rw [if_neg hbit, Nat.xor_zero] at hstep
          have hfd0 : ((W : Int).fdiv (2 ^ i)).tmod 2 = 0 := by rw [hfd, show W / 2 ^ i % 2 = 0 by omega]; rfl
          repeat' (first | (simp (disch := omega) only [push_cast, ↓reduceIte, Nat.reduceEqDiff, Int.reduceToNat, Nat.reducePow, Int.reducePow, Int.reduceNeg, Nat.reduceMul, Int.reduceMul, Int.reduceAdd, Int.reduceSub, Nat.reduceAdd, Nat.reduceSub, Nat.reduceLeDiff, Int.reduceLT, Int.reduceLE, Int.reduceEq, Int.reduceMod, Int.reduceDiv, reduceCtorEq, not_true_eq_false, not_false_eq_true, hfd0]) | refine vIfE_of (fun _ => ?_) (fun _ => ?_) | refine vIfD_of (fun _ => ?_) (fun _ => ?_) | refine vIfQ_of (fun _ => ?_) (fun _ => ?_) | refine vIfV_of (fun _ => ?_) (fun _ => ?_) | refine And.intro (by omega) ?_ | fail)
          exact ⟨rfl, i + 1, by simp (disch := omega) only [push_cast, ↓reduceIte, Nat.reduceEqDiff, Int.reduceToNat, Nat.reducePow, Int.reducePow, Int.reduceNeg, Nat.reduceMul, Int.reduceMul, Int.reduceAdd, Int.reduceSub, Nat.reduceAdd, Nat.reduceSub, Nat.reduceLeDiff, Int.reduceLT, Int.reduceLE, Int.reduceEq, Int.reduceMod, Int.reduceDiv, reduceCtorEq, not_true_eq_false, not_false_eq_true], ⟨by omega, hl3, q, hq, by unfold OwnB; rw [hq]; exact ho, ht, hd, by rw [hbits, hstep]⟩, by simp; omega⟩
      · have e : i = 32 := by omega
        subst e
        rw [Nat.mod_eq_of_lt (show W < 2 ^ 32 by omega)] at hbits
        rw [← hZ] at ht hd hbits
        have hbad := fsR_none (fst_turned (W := W) hbl hq ht hd (by omega) (by omega) (by omega) hbits)
        have hl3' := hl0.trans hl3
        repeat' (first | (simp (disch := omega) only [push_cast, ↓reduceIte, Nat.reduceEqDiff, Int.reduceToNat, Nat.reducePow, Int.reducePow, Int.reduceNeg, Nat.reduceMul, Int.reduceMul, Int.reduceAdd, Int.reduceSub, Nat.reduceAdd, Nat.reduceSub, Nat.reduceLeDiff, Int.reduceLT, Int.reduceLE, Int.reduceEq, Int.reduceMod, Int.reduceDiv, reduceCtorEq, not_true_eq_false, not_false_eq_true]) | refine vIfE_of (fun _ => ?_) (fun _ => ?_) | refine vIfD_of (fun _ => ?_) (fun _ => ?_) | refine vIfQ_of (fun _ => ?_) (fun _ => ?_) | refine vIfV_of (fun _ => ?_) (fun _ => ?_) | refine And.intro (by omega) ?_ | refine drawn_q ?_ | fail)
        have hos' : Sl w3 (.slice ox (blkB b).length cx) (q.map u8v) := hos
        refine (first_c _ q w3 hos' (by omega)).mono ?_
        rintro _ w4 ⟨⟨u2, rfl, hu2⟩, hl4⟩
        rw [hbad]
        repeat' (first | (simp (disch := omega) only [push_cast, ↓reduceIte, Nat.reduceEqDiff, Int.reduceToNat, Nat.reducePow, Int.reducePow, Int.reduceNeg, Nat.reduceMul, Int.reduceMul, Int.reduceAdd, Int.reduceSub, Nat.reduceAdd, Nat.reduceSub, Nat.reduceLeDiff, Int.reduceLT, Int.reduceLE, Int.reduceEq, Int.reduceMod, Int.reduceDiv, reduceCtorEq, not_true_eq_false, not_false_eq_true]) | refine vIfE_of (fun _ => ?_) (fun _ => ?_) | refine vIfD_of (fun _ => ?_) (fun _ => ?_) | refine vIfQ_of (fun _ => ?_) (fun _ => ?_) | refine vIfV_of (fun _ => ?_) (fun _ => ?_) | refine And.intro (by omega) ?_ | refine drawn_q ?_ | fail)
        refine (calive_c w4).mono ?_
        rintro _ w5 ⟨rfl, hl5⟩
        repeat' (first | (simp (disch := omega) only [push_cast, ↓reduceIte, Nat.reduceEqDiff, Int.reduceToNat, Nat.reducePow, Int.reducePow, Int.reduceNeg, Nat.reduceMul, Int.reduceMul, Int.reduceAdd, Int.reduceSub, Nat.reduceAdd, Nat.reduceSub, Nat.reduceLeDiff, Int.reduceLT, Int.reduceLE, Int.reduceEq, Int.reduceMod, Int.reduceDiv, reduceCtorEq, not_true_eq_false, not_false_eq_true]) | refine vIfE_of (fun _ => ?_) (fun _ => ?_) | refine vIfD_of (fun _ => ?_) (fun _ => ?_) | refine vIfQ_of (fun _ => ?_) (fun _ => ?_) | refine vIfV_of (fun _ => ?_) (fun _ => ?_) | refine And.intro (by omega) ?_ | refine drawn_q ?_ | fail)
        exact (hl3'.trans hl4).trans hl5
  · obtain ⟨cut, rfl⟩ := Int.eq_ofNat_of_zero_le (show 0 ≤ T by omega)
    have hcut : cut < (blkB b).length := by omega
    repeat' (first | (simp (disch := omega) only [push_cast, ↓reduceIte, Nat.reduceEqDiff, Int.reduceToNat, Nat.reducePow, Int.reducePow, Int.reduceNeg, Nat.reduceMul, Int.reduceMul, Int.reduceAdd, Int.reduceSub, Nat.reduceAdd, Nat.reduceSub, Nat.reduceLeDiff, Int.reduceLT, Int.reduceLE, Int.reduceEq, Int.reduceMod, Int.reduceDiv, reduceCtorEq, not_true_eq_false, not_false_eq_true, c1, addr_add_eq, Nat.zero_add, hT]) | refine vIfE_of (fun _ => ?_) (fun _ => ?_) | refine vIfD_of (fun _ => ?_) (fun _ => ?_) | refine vIfQ_of (fun _ => ?_) (fun _ => ?_) | refine vIfV_of (fun _ => ?_) (fun _ => ?_) | refine And.intro (by omega) ?_ | refine drawn_q ?_ | fail)
    have hpre := hx.sl.pre (k := cut) (by omega)
    rw [← List.map_take] at hpre
    refine (first_c _ ((blkB b).take cut) w1 hpre (by simp; omega)).mono ?_
    rintro _ w2 ⟨⟨u, rfl, hu⟩, hl2⟩
    have hfc := fsR_none (fst_cut hbl hcut)
    rw [hfc] at hu ⊢
    dsimp only at hu ⊢
    have hl12 := hl01.trans hl2
    have d0 := (B0.chg (Chg.of_later (ks := []) (hl1.trans hl2)) (by simp)).cell 0
    have d0 : w2.cell? ⟨k0, 0, none⟩ = some (.int .i64 i0) := d0
    by_cases hno : wi = 0 ∨ i0 < 0 ∨ 8 * (b.length : Int) - 32 < i0
    · repeat' (first | (simp (disch := omega) only [push_cast, ↓reduceIte, Nat.reduceEqDiff, Int.reduceToNat, Nat.reducePow, Int.reducePow, Int.reduceNeg, Nat.reduceMul, Int.reduceMul, Int.reduceAdd, Int.reduceSub, Nat.reduceAdd, Nat.reduceSub, Nat.reduceLeDiff, Int.reduceLT, Int.reduceLE, Int.reduceEq, Int.reduceMod, Int.reduceDiv, reduceCtorEq, not_true_eq_false, not_false_eq_true, d0, addr_add_eq, Nat.zero_add]) | refine vIfE_of (fun _ => ?_) (fun _ => ?_) | refine vIfD_of (fun _ => ?_) (fun _ => ?_) | refine vIfQ_of (fun _ => ?_) (fun _ => ?_) | refine vIfV_of (fun _ => ?_) (fun _ => ?_) | refine And.intro (by omega) ?_ | refine drawn_q ?_ | fail)
      all_goals first
        | (refine (calive_c w2).mono ?_
           rintro _ w3 ⟨rfl, hl3⟩
           repeat' (first | (simp (disch := omega) only [push_cast, ↓reduceIte, Nat.reduceEqDiff, Int.reduceToNat, Nat.reducePow, Int.reducePow, Int.reduceNeg, Nat.reduceMul, Int.reduceMul, Int.reduceAdd, Int.reduceSub, Nat.reduceAdd, Nat.reduceSub, Nat.reduceLeDiff, Int.reduceLT, Int.reduceLE, Int.reduceEq, Int.reduceMod, Int.reduceDiv, reduceCtorEq, not_true_eq_false, not_false_eq_true]) | refine vIfE_of (fun _ => ?_) (fun _ => ?_) | refine vIfD_of (fun _ => ?_) (fun _ => ?_) | refine vIfQ_of (fun _ => ?_) (fun _ => ?_) | refine vIfV_of (fun _ => ?_) (fun _ => ?_) | refine And.intro (by omega) ?_ | refine drawn_q ?_ | fail)
           exact hl12.trans hl3)
        | (exfalso; omega)
    · -- SAME
      obtain ⟨W, rfl⟩ := Int.eq_ofNat_of_zero_le h2.1
      obtain ⟨I, rfl⟩ := Int.eq_ofNat_of_zero_le (show 0 ≤ i0 by omega)
      have hl02 := hl1.trans hl2
      have hx2 := hx.later hl2
      have hhead : ((blkB b).length : Int) - 4 - (b.length : Int) = ((zi b.length).length : Int) := by omega
      have hz1 : 1 ≤ ((zi (b.length : Int)).length : Int) := by omega
      generalize hZ : (zi (b.length : Int)).length = Z at *
      repeat' (first | (simp (disch := omega) only [push_cast, ↓reduceIte, Nat.reduceEqDiff, Int.reduceToNat, Nat.reducePow, Int.reducePow, Int.reduceNeg, Nat.reduceMul, Int.reduceMul, Int.reduceAdd, Int.reduceSub, Nat.reduceAdd, Nat.reduceSub, Nat.reduceLeDiff, Int.reduceLT, Int.reduceLE, Int.reduceEq, Int.reduceMod, Int.reduceDiv, reduceCtorEq, not_true_eq_false, not_false_eq_true, d0, addr_add_eq, Nat.zero_add, hhead]) | refine vIfE_of (fun _ => ?_) (fun _ => ?_) | refine vIfD_of (fun _ => ?_) (fun _ => ?_) | refine vIfQ_of (fun _ => ?_) (fun _ => ?_) | refine vIfV_of (fun _ => ?_) (fun _ => ?_) | refine And.intro (by omega) ?_ | refine drawn_q ?_ | fail)
      refine vc_loop W8_0 (fun i : Nat => [(14, .int .i64 (i : Int))])
        (fun i w' => i ≤ 32 ∧ Later w0 w' ∧ ∃ q, q.length = (blkB b).length ∧ OwnB w' w0.heap.size 5 (.slice ox (blkB b).length cx) q ∧ q.take Z = zi b.length ∧ q.drop (Z + b.length) = four (sum (zi b.length ++ b)) ∧
          Nib.toN (Nib.bitsB q) = Nib.toN (Nib.bitsB (blkB b)) ^^^ 2 ^ (8 * Z + I) * (W % 2 ^ i)) (fun i => 32 - i) 0 (by decide) ?_ ?_ ?_
      · simp (disch := omega) only [push_cast, ↓reduceIte, Nat.reduceEqDiff, Int.reduceToNat, Nat.reducePow, Int.reducePow, Int.reduceNeg, Nat.reduceMul, Int.reduceMul, Int.reduceAdd, Int.reduceSub, Nat.reduceAdd, Nat.reduceSub, Nat.reduceLeDiff, Int.reduceLT, Int.reduceLE, Int.reduceEq, Int.reduceMod, Int.reduceDiv, reduceCtorEq, not_true_eq_false, not_false_eq_true]
      · refine ⟨by omega, hl02, blkB b, rfl, hx2, ?_, ?_, by simp [Nat.mod_one]⟩
        · unfold blkB; rw [← hZ, List.append_assoc, List.take_left]
        · unfold blkB
          have : Z + b.length = (zi (b.length : Int) ++ b).length := by rw [List.length_append, hZ]
          rw [this, List.drop_left]
      rintro i uu w3 ⟨hi, hl3, q, hq, ho, ht, hd, hbits⟩
      have d0 : w3.cell? ⟨k0, 0, none⟩ = some (.int .i64 I) := (B0.chg (Chg.of_later (ks := []) hl3) (by simp)).cell 0
      have hos := ho.sl
      unfold OwnB at ho
      rw [hq] at ho
      have hstep := burst_step (8 * Z + I) W i
      have hfd := shift_bit W i
      by_cases hi' : i < 32
      · by_cases hbit : W / 2 ^ i % 2 = 1
        · rw [if_pos hbit] at hstep
          have hk : (8 * Z + I + i) / 8 < q.length := by omega
          obtain ⟨ap, rfl⟩ := hos.some hk
          obtain ⟨kp, cs, rfl, hkp, _⟩ := own_blk' ho
          have e0 := hos.at8 hk
          rw [addr_add_eq, Nat.zero_add] at e0
          have hflip := flip_one q (8 * Z + I + i) hk
          have hu := u8_flip q[(8 * Z + I + i) / 8] ((8 * Z + I + i) % 8) (by omega)
          have hx8 : q[(8 * Z + I + i) / 8].toNat ^^^ 2 ^ ((8 * Z + I + i) % 8) < 256 := Nat.xor_lt_two_pow (n := 8) (UInt8.toNat_lt _) (Nat.pow_lt_pow_right (n := 8) (by omega) (by omega))
          have huv := u8v_nat hx8
          generalize hV : q[(8 * Z + I + i) / 8].toNat ^^^ 2 ^ ((8 * Z + I + i) % 8) = V at *
          have ek : (8 * (Z : Int) + (I : Int) + (i : Int)) = ((8 * Z + I + i : Nat) : Int) := by omega
          have e1 : ((8 * (Z : Int) + (I : Int) + (i : Int)) / 8).toNat = (8 * Z + I + i) / 8 := by omega
          have e2 : ((8 * (Z : Int) + (I : Int) + (i : Int)) % 8).toNat = (8 * Z + I + i) % 8 := by omega
          have hfd1 : ((W : Int).fdiv (2 ^ i)).tmod 2 = 1 := by rw [hfd, hbit]; rfl
          obtain ⟨ho5, hce, hfz⟩ := own_set ho (i := (8 * Z + I + i) / 8) (by omega) (.int .u8 (V : Int))
          have g5 := chg_setCell (i := (8 * Z + I + i) / 8) w3 (ks := [kp]) (k := kp) (by simp) (.int .u8 (V : Int))
          rw [← huv, ← List.map_set] at ho5
          rw [huv] at ho5
          repeat' (first | (simp (disch := omega) only [push_cast, ↓reduceIte, Nat.reduceEqDiff, Int.reduceToNat, Nat.reducePow, Int.reducePow, Int.reduceNeg, Nat.reduceMul, Int.reduceMul, Int.reduceAdd, Int.reduceSub, Nat.reduceAdd, Nat.reduceSub, Nat.reduceLeDiff, Int.reduceLT, Int.reduceLE, Int.reduceEq, Int.reduceMod, Int.reduceDiv, reduceCtorEq, not_true_eq_false, not_false_eq_true, hfd1, d0, e0, e1, e2, Int.one_mul, hu, hfz, addr_add_eq, Nat.zero_add]) | refine vIfE_of (fun _ => ?_) (fun _ => ?_) | refine vIfD_of (fun _ => ?_) (fun _ => ?_) | refine vIfQ_of (fun _ => ?_) (fun _ => ?_) | refine vIfV_of (fun _ => ?_) (fun _ => ?_) | refine And.intro (by omega) ?_ | refine drawn_q ?_ | fail)
          refine ⟨rfl, i + 1, by simp (disch := omega) only [push_cast, ↓reduceIte, Nat.reduceEqDiff, Int.reduceToNat, Nat.reducePow, Int.reducePow, Int.reduceNeg, Nat.reduceMul, Int.reduceMul, Int.reduceAdd, Int.reduceSub, Nat.reduceAdd, Nat.reduceSub, Nat.reduceLeDiff, Int.reduceLT, Int.reduceLE, Int.reduceEq, Int.reduceMod, Int.reduceDiv, reduceCtorEq, not_true_eq_false, not_false_eq_true], ⟨by omega, g5.later hl3 (by simpa using hkp), q.set ((8 * Z + I + i) / 8) (UInt8.ofNat V), by simp [hq], ?_, ?_, ?_, ?_⟩, by simp; omega⟩
          · unfold OwnB
            rw [List.length_set, hq]; exact ho5
          · rw [List.take_set_of_le (by omega)]; exact ht
          · rw [List.drop_set_of_lt (by omega)]; exact hd
          · rw [hflip, hbits, hstep, Nat.xor_assoc]
        · rw [if_neg hbit, Nat.xor_zero] at hstep
          have hfd0 : ((W : Int).fdiv (2 ^ i)).tmod 2 = 0 := by rw [hfd, show W / 2 ^ i % 2 = 0 by omega]; rfl
          repeat' (first | (simp (disch := omega) only [push_cast, ↓reduceIte, Nat.reduceEqDiff, Int.reduceToNat, Nat.reducePow, Int.reducePow, Int.reduceNeg, Nat.reduceMul, Int.reduceMul, Int.reduceAdd, Int.reduceSub, Nat.reduceAdd, Nat.reduceSub, Nat.reduceLeDiff, Int.reduceLT, Int.reduceLE, Int.reduceEq, Int.reduceMod, Int.reduceDiv, reduceCtorEq, not_true_eq_false, not_false_eq_true, hfd0]) | refine vIfE_of (fun _ => ?_) (fun _ => ?_) | refine vIfD_of (fun _ => ?_) (fun _ => ?_) | refine vIfQ_of (fun _ => ?_) (fun _ => ?_) | refine vIfV_of (fun _ => ?_) (fun _ => ?_) | refine And.intro (by omega) ?_ | fail)
          exact ⟨rfl, i + 1, by simp (disch := omega) only [push_cast, ↓reduceIte, Nat.reduceEqDiff, Int.reduceToNat, Nat.reducePow, Int.reducePow, Int.reduceNeg, Nat.reduceMul, Int.reduceMul, Int.reduceAdd, Int.reduceSub, Nat.reduceAdd, Nat.reduceSub, Nat.reduceLeDiff, Int.reduceLT, Int.reduceLE, Int.reduceEq, Int.reduceMod, Int.reduceDiv, reduceCtorEq, not_true_eq_false, not_false_eq_true], ⟨by omega, hl3, q, hq, by unfold OwnB; rw [hq]; exact ho, ht, hd, by rw [hbits, hstep]⟩, by simp; omega⟩
      · have e : i = 32 := by omega
        subst e
        rw [Nat.mod_eq_of_lt (show W < 2 ^ 32 by omega)] at hbits
        rw [← hZ] at ht hd hbits
        have hbad := fsR_none (fst_turned (W := W) hbl hq ht hd (by omega) (by omega) (by omega) hbits)
        have hl3' := hl0.trans hl3
        repeat' (first | (simp (disch := omega) only [push_cast, ↓reduceIte, Nat.reduceEqDiff, Int.reduceToNat, Nat.reducePow, Int.reducePow, Int.reduceNeg, Nat.reduceMul, Int.reduceMul, Int.reduceAdd, Int.reduceSub, Nat.reduceAdd, Nat.reduceSub, Nat.reduceLeDiff, Int.reduceLT, Int.reduceLE, Int.reduceEq, Int.reduceMod, Int.reduceDiv, reduceCtorEq, not_true_eq_false, not_false_eq_true]) | refine vIfE_of (fun _ => ?_) (fun _ => ?_) | refine vIfD_of (fun _ => ?_) (fun _ => ?_) | refine vIfQ_of (fun _ => ?_) (fun _ => ?_) | refine vIfV_of (fun _ => ?_) (fun _ => ?_) | refine And.intro (by omega) ?_ | refine drawn_q ?_ | fail)
        have hos' : Sl w3 (.slice ox (blkB b).length cx) (q.map u8v) := hos
        refine (first_c _ q w3 hos' (by omega)).mono ?_
        rintro _ w4 ⟨⟨u2, rfl, hu2⟩, hl4⟩
        rw [hbad]
        repeat' (first | (simp (disch := omega) only [push_cast, ↓reduceIte, Nat.reduceEqDiff, Int.reduceToNat, Nat.reducePow, Int.reducePow, Int.reduceNeg, Nat.reduceMul, Int.reduceMul, Int.reduceAdd, Int.reduceSub, Nat.reduceAdd, Nat.reduceSub, Nat.reduceLeDiff, Int.reduceLT, Int.reduceLE, Int.reduceEq, Int.reduceMod, Int.reduceDiv, reduceCtorEq, not_true_eq_false, not_false_eq_true]) | refine vIfE_of (fun _ => ?_) (fun _ => ?_) | refine vIfD_of (fun _ => ?_) (fun _ => ?_) | refine vIfQ_of (fun _ => ?_) (fun _ => ?_) | refine vIfV_of (fun _ => ?_) (fun _ => ?_) | refine And.intro (by omega) ?_ | refine drawn_q ?_ | fail)
        refine (calive_c w4).mono ?_
        rintro _ w5 ⟨rfl, hl5⟩
        repeat' (first | (simp (disch := omega) only [push_cast, ↓reduceIte, Nat.reduceEqDiff, Int.reduceToNat, Nat.reducePow, Int.reducePow, Int.reduceNeg, Nat.reduceMul, Int.reduceMul, Int.reduceAdd, Int.reduceSub, Nat.reduceAdd, Nat.reduceSub, Nat.reduceLeDiff, Int.reduceLT, Int.reduceLE, Int.reduceEq, Int.reduceMod, Int.reduceDiv, reduceCtorEq, not_true_eq_false, not_false_eq_true]) | refine vIfE_of (fun _ => ?_) (fun _ => ?_) | refine vIfD_of (fun _ => ?_) (fun _ => ?_) | refine vIfQ_of (fun _ => ?_) (fun _ => ?_) | refine vIfV_of (fun _ => ?_) (fun _ => ?_) | refine And.intro (by omega) ?_ | refine drawn_q ?_ | fail)
        exact (hl3'.trans hl4).trans hl5
theorem own : ownKnob Try.prog.godebug = none := by kernel_rfl
theorem lifted (os : Os) (started : os.Started) (H : Type) (enc : TypeId × Value → H) :
    ReturnsInHanded {} Try.checked os 8 .any (Rows.checkTurnedSpec.pre6 enc Try.prog Try.f8 Rows.checkTurnedRow.domain false) (Rows.checkTurnedSpec.post enc Try.prog Try.f8 false true false false) := by
  refine lifted_later (C := Try.checked) own started (by kernel_rfl) Try.func8 hb8
    (ChangeSpec.witness6 (enc := enc) (C := Try.checked) false ⟨#[], #[.slice none 0 0, .agg #[.int .i64 0, .int .i64 0], .int .u32 0], []⟩ 8 (by kernel_rfl) (by kernel_rfl) (by kernel_rfl) (by kernel_rfl))
    (by kernel_rfl) (list_all (by kernel_rfl)) (by kernel_rfl) Try.underlying4 rfl ?_ ?_
  · intro ds h
    have h : ds.length = 3 := h
    match ds, h with
    | [_, _, _], _ => rfl
  · intro W base args ds p hval0 hA0
    have hval : ∀ (j : Nat) t v, Try.f8.params[j]? = some t → args[j]? = some v → Value.okWide Try.prog W .any base t v := hval0
    have hA : DataW.TrodAll enc Try.prog W 0 (fun _ => true) true Try.f8.params.toList args.toList ds p := hA0
    rw [Try.params8] at hA hval
    obtain ⟨v0, vs0, d0, ds0, p0, q0, hargs, rfl, rfl, h0, r0⟩ := trodAll_cons hA
    obtain ⟨v1, vs1, d1, ds1, p1, q1, rfl, rfl, rfl, h1, r1⟩ := trodAll_cons r0
    obtain ⟨v2, vs2, d2, ds2, p2, q2, rfl, rfl, rfl, h2, r2⟩ := trodAll_cons r1
    obtain ⟨rfl, rfl, rfl⟩ := trodAll_nil r2
    obtain rfl : args = #[v0, v1, v2] := by cases args; simp_all
    obtain ⟨a0, w0⟩ := open_u8s Try.underlying24 Try.underlying5 (by kernel_rfl) (hval 0 24 v0 rfl rfl) h0
    obtain ⟨a1, b1, rfl, w1, u1⟩ := open_pair Try.underlying35 Try.underlying3 (by kernel_rfl) (by kernel_rfl) (hval 1 35 v1 rfl rfl) h1
    obtain ⟨a2, rfl, rfl, rfl, w2⟩ := open_int Try.underlying43 (hval 2 43 v2 rfl rfl) h2
    exact law_c v0 a0 a1 b1 a2 W w0 (i64_of_wf w1) (i64_of_wf u1) (u32_of_wf w2)
theorem over : Rows.checkTurnedRow.holds Try.pinned (OpenSpec.ofChange Rows.checkTurnedSpec) :=
  OpenClaim.holds_of_wide 8 Try.f8 rfl rfl rfl rfl rfl rfl rfl ⟨rfl, rfl, rfl, rfl, rfl⟩ rfl rfl rfl rfl rfl (by kernel_rfl) Try.func8 (by kernel_rfl)
    (of_decide_eq_true (by kernel_rfl)) (by unfold Func.isWrapper; first | (rw [if_pos (by decide +kernel)]; kernel_rfl) | (rw [if_neg (by decide +kernel)]; exact ⟨rfl, rfl⟩))
    (fun os started H enc _ => lifted os started H enc)
/-- The statement. -/
theorem proved : Rows.CheckTurnedSaid :=
  over
end Go.Proofs.Ytkchefbnamiikaa.checkTurned
