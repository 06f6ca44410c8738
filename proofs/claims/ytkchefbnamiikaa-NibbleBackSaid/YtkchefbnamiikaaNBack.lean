/- NibbleBack holds for every input: numbers that are packed in a width that is enough are unpacked as they were, and each is at its place; what is unpacked of any bytes is packed as them. -/
import Derived.Test.YtkchefbnamiikaaRows
import Derived.Test.YtkchefbnamiikaaNib6
import Derived.Test.YtkchefbnamiikaaCodesNL
import Derived.Test.YtkchefbnamiikaaRow
set_option linter.unusedSimpArgs false
namespace Go.Proofs.Ytkchefbnamiikaa.nibbleBack
open Go.Vc Go.Nib Go.ChangeShapes Go.WideShapes Go.ChangeAt Go.RowKit
theorem pk_ok {l : List UInt64} {k : Nat} (h : wid l ≤ k) (hk : k ≤ 64) (hl : l.length ≤ 65536) : pkE l.length (wid l) k = 0 ∧ pkR l k = pack l k := by
  have h2 : pkE l.length (wid l) k = 0 := by
    unfold pkE
    rw [if_neg (by omega), if_neg (by omega)]
  refine ⟨h2, ?_⟩
  unfold pkR
  rw [if_pos h2]; rfl
theorem un_ok {l : List UInt64} {k : Nat} (h : wid l ≤ k) (hk : k ≤ 64) (hl : l.length ≤ 65536) : unE (pack l k) l.length k = 0 ∧ unR (pack l k) l.length k = l := by
  have h2 : unE (pack l k) l.length k = 0 := by
    unfold unE
    rw [if_neg (by omega)]
    simp only [Int.toNat_natCast]
    rw [if_neg (by rw [pack_len]; simp), if_neg (by rw [nums_pack l k h]; simp)]
  refine ⟨h2, ?_⟩
  unfold unR
  rw [if_pos h2]
  simp only [Int.toNat_natCast]
  exact nums_pack l k h
theorem at_ok {l : List UInt64} {k i : Nat} (h : wid l ≤ k) (hk : k ≤ 64) (hl : l.length ≤ 65536) (hi : i < l.length) : atR (pack l k) i k = (((l[i].toNat : Nat) : Int), 0) := by
  unfold atR
  rw [if_neg (by omega)]
  by_cases h0 : k = 0
  · subst h0
    have hx := (wid_le 0 l).1 h l[i] (List.getElem_mem hi)
    have : l[i].toNat = 0 := by simpa using hx
    rw [this]; rfl
  · rw [if_neg (by omega)]
    have hp := pack_len l k
    have hik : i * k + k ≤ l.length * k := by
      have := Nat.mul_le_mul_right k hi
      rw [Nat.succ_eq_add_one, Nat.add_mul, Nat.one_mul] at this; exact this
    have hlt : i < 8 * (pack l k).length / k := by
      have : i + 1 ≤ 8 * (pack l k).length / k := (Nat.le_div_iff_mul_le (by omega)).2 (by rw [Nat.add_mul, Nat.one_mul]; omega)
      omega
    have e : 8 * ((pack l k).length : Int) / (k : Int) = ((8 * (pack l k).length / k : Nat) : Int) := by rw [Int.natCast_ediv, Int.natCast_mul]; rfl
    rw [e, if_neg (by omega)]
    simp only [Int.toNat_natCast]
    rw [num_pack l k i hi ((wid_le k l).1 h l[i] (List.getElem_mem hi))]
/-- What is unpacked of any bytes, is packed as them. -/
theorem back_ok {b : List UInt8} {n k : Nat} (hk : k ≤ 64) (hn : n ≤ 65536) (h : unE b n k = 0) : unR b n k = nums b n k ∧ pack (nums b n k) k = b := by
  have h1 := h
  unfold unE at h1
  rw [if_neg (by omega)] at h1
  simp only [Int.toNat_natCast] at h1
  refine ⟨by unfold unR; rw [if_pos h]; rfl, ?_⟩
  split at h1
  · omega
  split at h1
  · omega
  · rename_i h2; simpa using h2
theorem un_71 {b : List UInt8} {n k : Nat} (hk : k ≤ 64) (hn : n ≤ 65536) : unE b n k = 0 ∨ unE b n k = 71 := by
  unfold unE
  rw [if_neg (by omega)]
  split
  · exact .inr rfl
  split
  · exact .inr rfl
  · exact .inl rfl
theorem and7 (n : Int) (h : -9223372036854775808 ≤ n ∧ n ≤ 9223372036854775807) : ∃ k : Nat, k ≤ 7 ∧ bitI .and .i64 n 7 = (k : Int) := by
  have hle : (BitVec.ofInt 64 n &&& BitVec.ofInt 64 7).toNat ≤ 7 := by rw [BitVec.toNat_and]; exact Nat.and_le_right
  refine ⟨(BitVec.ofInt 64 n &&& BitVec.ofInt 64 7).toNat, hle, ?_⟩
  show IntKind.i64.wrap ((BitVec.ofInt 64 n &&& BitVec.ofInt 64 7).toNat : Int) = _
  exact wrap_i64 (by omega)
set_option maxRecDepth 100000 in
theorem law_c (v u : Value) (l : List UInt64) (more : Int) (b : List UInt8) (w : World) (h : Sl w v (l.map u64v)) (hb : Sl w u (b.map u8v)) (h1 : -9223372036854775808 ≤ more ∧ more ≤ 9223372036854775807) :
    FnC Try.prog 7 #[v, .int .i64 more, u] w fun v w' => v = .bool true ∧ Later w w' := by
  have hs := h
  have hbs := hb
  obtain ⟨o, c, rfl, g1, g2, h, h3⟩ := h.openM
  obtain ⟨ob, cb, rfl, gb1, gb2, hb, hb3⟩ := hb.openM
  refine enter7 _ _ _ ?_
  unfold B7
  obtain ⟨k7, hk7, e7⟩ := and7 more h1
  by_cases hlong : 300 < l.length ∨ 300 < b.length
  · repeat' (first | (simp (disch := omega) only [push_cast, ↓reduceIte, Nat.reduceEqDiff, Int.reduceToNat, Nat.reducePow, Int.reducePow, Int.reduceNeg, Nat.reduceMul, Int.reduceMul, Int.reduceAdd, Int.reduceSub, Nat.reduceAdd, Nat.reduceSub, Nat.reduceLeDiff, Int.reduceLT, Int.reduceLE, Int.reduceEq, Int.reduceMod, Int.reduceDiv, reduceCtorEq, not_true_eq_false, not_false_eq_true]) | refine vIfE_of (fun _ => ?_) (fun _ => ?_) | refine vIfD_of (fun _ => ?_) (fun _ => ?_) | refine vIfQ_of (fun _ => ?_) (fun _ => ?_) | refine vIfV_of (fun _ => ?_) (fun _ => ?_) | refine And.intro (by omega) ?_ | refine drawn_q ?_ | fail)
    all_goals first
      | (refine (nalive_c w).mono ?_
         rintro _ w1 ⟨rfl, hl1⟩
         repeat' (first | (simp (disch := omega) only [push_cast, ↓reduceIte, Nat.reduceEqDiff, Int.reduceToNat, Nat.reducePow, Int.reducePow, Int.reduceNeg, Nat.reduceMul, Int.reduceMul, Int.reduceAdd, Int.reduceSub, Nat.reduceAdd, Nat.reduceSub, Nat.reduceLeDiff, Int.reduceLT, Int.reduceLE, Int.reduceEq, Int.reduceMod, Int.reduceDiv, reduceCtorEq, not_true_eq_false, not_false_eq_true]) | refine vIfE_of (fun _ => ?_) (fun _ => ?_) | refine vIfD_of (fun _ => ?_) (fun _ => ?_) | refine vIfQ_of (fun _ => ?_) (fun _ => ?_) | refine vIfV_of (fun _ => ?_) (fun _ => ?_) | refine And.intro (by omega) ?_ | refine drawn_q ?_ | fail)
         exact hl1)
      | (exfalso; omega)
  repeat' (first | (simp (disch := omega) only [push_cast, ↓reduceIte, Nat.reduceEqDiff, Int.reduceToNat, Nat.reducePow, Int.reducePow, Int.reduceNeg, Nat.reduceMul, Int.reduceMul, Int.reduceAdd, Int.reduceSub, Nat.reduceAdd, Nat.reduceSub, Nat.reduceLeDiff, Int.reduceLT, Int.reduceLE, Int.reduceEq, Int.reduceMod, Int.reduceDiv, reduceCtorEq, not_true_eq_false, not_false_eq_true]) | refine vIfE_of (fun _ => ?_) (fun _ => ?_) | refine vIfD_of (fun _ => ?_) (fun _ => ?_) | refine vIfQ_of (fun _ => ?_) (fun _ => ?_) | refine vIfV_of (fun _ => ?_) (fun _ => ?_) | refine And.intro (by omega) ?_ | refine drawn_q ?_ | fail)
  refine (width_c _ l w hs).mono ?_
  rintro _ w4 ⟨rfl, hw⟩
  obtain rfl := hw.symm
  have h64 := wid_64 l
  have eK : min ((wid l : Int) + (k7 : Int)) 64 = ((min (wid l + k7) 64 : Nat) : Int) := by omega
  have hwK : wid l ≤ min (wid l + k7) 64 := by omega
  have hK64 : min (wid l + k7) 64 ≤ 64 := by omega
  generalize min (wid l + k7) 64 = K at *
  have hp := pk_ok hwK hK64 (show l.length ≤ 65536 by omega)
  have hu := un_ok hwK hK64 (show l.length ≤ 65536 by omega)
  repeat' (first | (simp (disch := omega) only [push_cast, ↓reduceIte, Nat.reduceEqDiff, Int.reduceToNat, Nat.reducePow, Int.reducePow, Int.reduceNeg, Nat.reduceMul, Int.reduceMul, Int.reduceAdd, Int.reduceSub, Nat.reduceAdd, Nat.reduceSub, Nat.reduceLeDiff, Int.reduceLT, Int.reduceLE, Int.reduceEq, Int.reduceMod, Int.reduceDiv, reduceCtorEq, not_true_eq_false, not_false_eq_true, e7, eK]) | refine vIfE_of (fun _ => ?_) (fun _ => ?_) | refine vIfD_of (fun _ => ?_) (fun _ => ?_) | refine vIfQ_of (fun _ => ?_) (fun _ => ?_) | refine vIfV_of (fun _ => ?_) (fun _ => ?_) | refine And.intro (by omega) ?_ | refine drawn_q ?_ | fail)
  refine (pack_c _ l K w hs (by omega) (by omega)).mono ?_
  rintro _ w1 ⟨⟨x, rfl, hx⟩, hl1⟩
  rw [hp.1]
  rw [hp.2] at hx
  obtain ⟨ox, cx, rfl⟩ := hx.slice
  have hxs := hx.sl
  have hpl := pack_len l K
  have hm : l.length * K ≤ 300 * 64 := Nat.mul_le_mul (by omega) (by omega)
  repeat' (first | (simp (disch := omega) only [push_cast, ↓reduceIte, Nat.reduceEqDiff, Int.reduceToNat, Nat.reducePow, Int.reducePow, Int.reduceNeg, Nat.reduceMul, Int.reduceMul, Int.reduceAdd, Int.reduceSub, Nat.reduceAdd, Nat.reduceSub, Nat.reduceLeDiff, Int.reduceLT, Int.reduceLE, Int.reduceEq, Int.reduceMod, Int.reduceDiv, reduceCtorEq, not_true_eq_false, not_false_eq_true]) | refine vIfE_of (fun _ => ?_) (fun _ => ?_) | refine vIfD_of (fun _ => ?_) (fun _ => ?_) | refine vIfQ_of (fun _ => ?_) (fun _ => ?_) | refine vIfV_of (fun _ => ?_) (fun _ => ?_) | refine And.intro (by omega) ?_ | refine drawn_q ?_ | fail)
  refine (unpack_c _ (pack l K) l.length K w1 hxs (by omega) (by omega) (by omega)).mono ?_
  rintro _ w2 ⟨⟨y, rfl, hy⟩, hl2⟩
  rw [hu.1]
  rw [hu.2] at hy
  obtain ⟨oy, cy, rfl⟩ := hy.slice
  repeat' (first | (simp (disch := omega) only [push_cast, ↓reduceIte, Nat.reduceEqDiff, Int.reduceToNat, Nat.reducePow, Int.reducePow, Int.reduceNeg, Nat.reduceMul, Int.reduceMul, Int.reduceAdd, Int.reduceSub, Nat.reduceAdd, Nat.reduceSub, Nat.reduceLeDiff, Int.reduceLT, Int.reduceLE, Int.reduceEq, Int.reduceMod, Int.reduceDiv, reduceCtorEq, not_true_eq_false, not_false_eq_true]) | refine vIfE_of (fun _ => ?_) (fun _ => ?_) | refine vIfD_of (fun _ => ?_) (fun _ => ?_) | refine vIfQ_of (fun _ => ?_) (fun _ => ?_) | refine vIfV_of (fun _ => ?_) (fun _ => ?_) | refine And.intro (by omega) ?_ | refine drawn_q ?_ | fail)
  refine (same_c _ _ l l w2 hy.sl (hs.later (hl1.trans hl2))).mono ?_
  rintro _ w3 ⟨rfl, hl3⟩
  have hl13 := (hl1.trans hl2).trans hl3
  repeat' (first | (simp (disch := omega) only [push_cast, ↓reduceIte, Nat.reduceEqDiff, Int.reduceToNat, Nat.reducePow, Int.reducePow, Int.reduceNeg, Nat.reduceMul, Int.reduceMul, Int.reduceAdd, Int.reduceSub, Nat.reduceAdd, Nat.reduceSub, Nat.reduceLeDiff, Int.reduceLT, Int.reduceLE, Int.reduceEq, Int.reduceMod, Int.reduceDiv, reduceCtorEq, not_true_eq_false, not_false_eq_true, decide_true]) | refine vIfE_of (fun _ => ?_) (fun _ => ?_) | refine vIfD_of (fun _ => ?_) (fun _ => ?_) | refine vIfQ_of (fun _ => ?_) (fun _ => ?_) | refine vIfV_of (fun _ => ?_) (fun _ => ?_) | refine And.intro (by omega) ?_ | refine drawn_q ?_ | fail)
  refine vc_loop W7_0 (fun i : Nat => [(12, .int .i64 (i : Int))])
    (fun i w' => i ≤ l.length ∧ w' = w3) (fun i => l.length - i) 0 (by decide) ?_ ?_ ?_
  · simp (disch := omega) only [push_cast, ↓reduceIte, Nat.reduceEqDiff, Int.reduceToNat, Nat.reducePow, Int.reducePow, Int.reduceNeg, Nat.reduceMul, Int.reduceMul, Int.reduceAdd, Int.reduceSub, Nat.reduceAdd, Nat.reduceSub, Nat.reduceLeDiff, Int.reduceLT, Int.reduceLE, Int.reduceEq, Int.reduceMod, Int.reduceDiv, reduceCtorEq, not_true_eq_false, not_false_eq_true]
  · exact ⟨by omega, rfl⟩
  rintro i uu w0 ⟨hi, hw⟩
  obtain rfl := hw.symm
  by_cases hi' : i < l.length
  · obtain ⟨a, rfl⟩ := h.some hi'
    have hc := (h.later hl13).at64 hi'
    have hat := at_ok hwK hK64 (show l.length ≤ 65536 by omega) hi'
    repeat' (first | (simp (disch := omega) only [push_cast, ↓reduceIte, Nat.reduceEqDiff, Int.reduceToNat, Nat.reducePow, Int.reducePow, Int.reduceNeg, Nat.reduceMul, Int.reduceMul, Int.reduceAdd, Int.reduceSub, Nat.reduceAdd, Nat.reduceSub, Nat.reduceLeDiff, Int.reduceLT, Int.reduceLE, Int.reduceEq, Int.reduceMod, Int.reduceDiv, reduceCtorEq, not_true_eq_false, not_false_eq_true, hc]) | refine vIfE_of (fun _ => ?_) (fun _ => ?_) | refine vIfD_of (fun _ => ?_) (fun _ => ?_) | refine vIfQ_of (fun _ => ?_) (fun _ => ?_) | refine vIfV_of (fun _ => ?_) (fun _ => ?_) | refine And.intro (by omega) ?_ | refine drawn_q ?_ | fail)
    refine (at_c _ (pack l K) i K w3 (hxs.later (hl2.trans hl3)) (by omega) (by omega) (by omega)).mono ?_
    rintro _ w4 ⟨rfl, hw⟩
    obtain rfl := hw.symm
    rw [hat]
    unfold tupA
    repeat' (first | (simp (disch := omega) only [push_cast, ↓reduceIte, Nat.reduceEqDiff, Int.reduceToNat, Nat.reducePow, Int.reducePow, Int.reduceNeg, Nat.reduceMul, Int.reduceMul, Int.reduceAdd, Int.reduceSub, Nat.reduceAdd, Nat.reduceSub, Nat.reduceLeDiff, Int.reduceLT, Int.reduceLE, Int.reduceEq, Int.reduceMod, Int.reduceDiv, reduceCtorEq, not_true_eq_false, not_false_eq_true, hc]) | refine vIfE_of (fun _ => ?_) (fun _ => ?_) | refine vIfD_of (fun _ => ?_) (fun _ => ?_) | refine vIfQ_of (fun _ => ?_) (fun _ => ?_) | refine vIfV_of (fun _ => ?_) (fun _ => ?_) | refine And.intro (by omega) ?_ | refine drawn_q ?_ | fail)
    exact ⟨rfl, i + 1, by simp (disch := omega) only [push_cast, ↓reduceIte, Nat.reduceEqDiff, Int.reduceToNat, Nat.reducePow, Int.reducePow, Int.reduceNeg, Nat.reduceMul, Int.reduceMul, Int.reduceAdd, Int.reduceSub, Nat.reduceAdd, Nat.reduceSub, Nat.reduceLeDiff, Int.reduceLT, Int.reduceLE, Int.reduceEq, Int.reduceMod, Int.reduceDiv, reduceCtorEq, not_true_eq_false, not_false_eq_true], ⟨by omega, rfl⟩, by simp; omega⟩
  by_cases hK : K = 0
  · repeat' (first | (simp (disch := omega) only [push_cast, ↓reduceIte, Nat.reduceEqDiff, Int.reduceToNat, Nat.reducePow, Int.reducePow, Int.reduceNeg, Nat.reduceMul, Int.reduceMul, Int.reduceAdd, Int.reduceSub, Nat.reduceAdd, Nat.reduceSub, Nat.reduceLeDiff, Int.reduceLT, Int.reduceLE, Int.reduceEq, Int.reduceMod, Int.reduceDiv, reduceCtorEq, not_true_eq_false, not_false_eq_true]) | refine vIfE_of (fun _ => ?_) (fun _ => ?_) | refine vIfD_of (fun _ => ?_) (fun _ => ?_) | refine vIfQ_of (fun _ => ?_) (fun _ => ?_) | refine vIfV_of (fun _ => ?_) (fun _ => ?_) | refine And.intro (by omega) ?_ | refine drawn_q ?_ | fail)
    refine (unpack_c _ b 0 K w3 (hbs.later hl13) (by omega) (by omega) (by omega)).mono ?_
    rintro _ w4 ⟨⟨z, rfl, hz⟩, hl4⟩
    have hl14 := hl13.trans hl4
    have hEE : unE b (0 : Int) (K : Int) = 0 ∨ unE b (0 : Int) (K : Int) = 71 := un_71 (n := 0) hK64 (by omega)
    rcases hEE with hE | hE
    · have hb12 : unR b (0 : Int) (K : Int) = nums b 0 K ∧ pack (nums b 0 K) K = b := back_ok (n := 0) hK64 (by omega) hE
      obtain ⟨hb1, hb2⟩ := hb12
      have hpn := pk_ok (wid_nums b 0 K hK64) hK64 (by rw [nums_len]; omega)
      rw [hb1] at hz
      rw [hE]
      obtain ⟨oz, cz, rfl⟩ := hz.slice
      repeat' (first | (simp (disch := omega) only [push_cast, ↓reduceIte, Nat.reduceEqDiff, Int.reduceToNat, Nat.reducePow, Int.reducePow, Int.reduceNeg, Nat.reduceMul, Int.reduceMul, Int.reduceAdd, Int.reduceSub, Nat.reduceAdd, Nat.reduceSub, Nat.reduceLeDiff, Int.reduceLT, Int.reduceLE, Int.reduceEq, Int.reduceMod, Int.reduceDiv, reduceCtorEq, not_true_eq_false, not_false_eq_true]) | refine vIfE_of (fun _ => ?_) (fun _ => ?_) | refine vIfD_of (fun _ => ?_) (fun _ => ?_) | refine vIfQ_of (fun _ => ?_) (fun _ => ?_) | refine vIfV_of (fun _ => ?_) (fun _ => ?_) | refine And.intro (by omega) ?_ | refine drawn_q ?_ | fail)
      refine (pack_c _ (nums b 0 K) K w4 hz.sl (by rw [nums_len]; omega) (by omega)).mono ?_
      rintro _ w5 ⟨⟨c, rfl, hc⟩, hl5⟩
      rw [hpn.1]
      rw [hpn.2, hb2] at hc
      obtain ⟨oc, cc, rfl⟩ := hc.slice
      repeat' (first | (simp (disch := omega) only [push_cast, ↓reduceIte, Nat.reduceEqDiff, Int.reduceToNat, Nat.reducePow, Int.reducePow, Int.reduceNeg, Nat.reduceMul, Int.reduceMul, Int.reduceAdd, Int.reduceSub, Nat.reduceAdd, Nat.reduceSub, Nat.reduceLeDiff, Int.reduceLT, Int.reduceLE, Int.reduceEq, Int.reduceMod, Int.reduceDiv, reduceCtorEq, not_true_eq_false, not_false_eq_true]) | refine vIfE_of (fun _ => ?_) (fun _ => ?_) | refine vIfD_of (fun _ => ?_) (fun _ => ?_) | refine vIfQ_of (fun _ => ?_) (fun _ => ?_) | refine vIfV_of (fun _ => ?_) (fun _ => ?_) | refine And.intro (by omega) ?_ | refine drawn_q ?_ | fail)
      refine (nalive_c w5).mono ?_
      rintro _ w6 ⟨rfl, hl6⟩
      repeat' (first | (simp (disch := omega) only [push_cast, ↓reduceIte, Nat.reduceEqDiff, Int.reduceToNat, Nat.reducePow, Int.reducePow, Int.reduceNeg, Nat.reduceMul, Int.reduceMul, Int.reduceAdd, Int.reduceSub, Nat.reduceAdd, Nat.reduceSub, Nat.reduceLeDiff, Int.reduceLT, Int.reduceLE, Int.reduceEq, Int.reduceMod, Int.reduceDiv, reduceCtorEq, not_true_eq_false, not_false_eq_true]) | refine vIfE_of (fun _ => ?_) (fun _ => ?_) | refine vIfD_of (fun _ => ?_) (fun _ => ?_) | refine vIfQ_of (fun _ => ?_) (fun _ => ?_) | refine vIfV_of (fun _ => ?_) (fun _ => ?_) | refine And.intro (by omega) ?_ | refine drawn_q ?_ | fail)
      refine vConv_bytes Try.underlying24 Try.underlying9 Try.underlying5 (hc.sl.later hl6) ?_
      repeat' (first | (simp (disch := omega) only [push_cast, ↓reduceIte, Nat.reduceEqDiff, Int.reduceToNat, Nat.reducePow, Int.reducePow, Int.reduceNeg, Nat.reduceMul, Int.reduceMul, Int.reduceAdd, Int.reduceSub, Nat.reduceAdd, Nat.reduceSub, Nat.reduceLeDiff, Int.reduceLT, Int.reduceLE, Int.reduceEq, Int.reduceMod, Int.reduceDiv, reduceCtorEq, not_true_eq_false, not_false_eq_true]) | refine vIfE_of (fun _ => ?_) (fun _ => ?_) | refine vIfD_of (fun _ => ?_) (fun _ => ?_) | refine vIfQ_of (fun _ => ?_) (fun _ => ?_) | refine vIfV_of (fun _ => ?_) (fun _ => ?_) | refine And.intro (by omega) ?_ | refine drawn_q ?_ | fail)
      refine vConv_bytes Try.underlying24 Try.underlying9 Try.underlying5 (hbs.later ((hl14.trans hl5).trans hl6)) ?_
      repeat' (first | (simp (disch := omega) only [push_cast, ↓reduceIte, Nat.reduceEqDiff, Int.reduceToNat, Nat.reducePow, Int.reducePow, Int.reduceNeg, Nat.reduceMul, Int.reduceMul, Int.reduceAdd, Int.reduceSub, Nat.reduceAdd, Nat.reduceSub, Nat.reduceLeDiff, Int.reduceLT, Int.reduceLE, Int.reduceEq, Int.reduceMod, Int.reduceDiv, reduceCtorEq, not_true_eq_false, not_false_eq_true]) | refine vIfE_of (fun _ => ?_) (fun _ => ?_) | refine vIfD_of (fun _ => ?_) (fun _ => ?_) | refine vIfQ_of (fun _ => ?_) (fun _ => ?_) | refine vIfV_of (fun _ => ?_) (fun _ => ?_) | refine And.intro (by omega) ?_ | refine drawn_q ?_ | fail)
      exact (hl14.trans hl5).trans hl6
    · rw [hE]
      repeat' (first | (simp (disch := omega) only [push_cast, ↓reduceIte, Nat.reduceEqDiff, Int.reduceToNat, Nat.reducePow, Int.reducePow, Int.reduceNeg, Nat.reduceMul, Int.reduceMul, Int.reduceAdd, Int.reduceSub, Nat.reduceAdd, Nat.reduceSub, Nat.reduceLeDiff, Int.reduceLT, Int.reduceLE, Int.reduceEq, Int.reduceMod, Int.reduceDiv, reduceCtorEq, not_true_eq_false, not_false_eq_true]) | refine vIfE_of (fun _ => ?_) (fun _ => ?_) | refine vIfD_of (fun _ => ?_) (fun _ => ?_) | refine vIfQ_of (fun _ => ?_) (fun _ => ?_) | refine vIfV_of (fun _ => ?_) (fun _ => ?_) | refine And.intro (by omega) ?_ | refine drawn_q ?_ | fail)
      refine (nalive_c w4).mono ?_
      rintro _ w6 ⟨rfl, hl6⟩
      repeat' (first | (simp (disch := omega) only [push_cast, ↓reduceIte, Nat.reduceEqDiff, Int.reduceToNat, Nat.reducePow, Int.reducePow, Int.reduceNeg, Nat.reduceMul, Int.reduceMul, Int.reduceAdd, Int.reduceSub, Nat.reduceAdd, Nat.reduceSub, Nat.reduceLeDiff, Int.reduceLT, Int.reduceLE, Int.reduceEq, Int.reduceMod, Int.reduceDiv, reduceCtorEq, not_true_eq_false, not_false_eq_true]) | refine vIfE_of (fun _ => ?_) (fun _ => ?_) | refine vIfD_of (fun _ => ?_) (fun _ => ?_) | refine vIfQ_of (fun _ => ?_) (fun _ => ?_) | refine vIfV_of (fun _ => ?_) (fun _ => ?_) | refine And.intro (by omega) ?_ | refine drawn_q ?_ | fail)
      exact hl14.trans hl6
  · have eN : 8 * (b.length : Int) / (K : Int) = ((8 * b.length / K : Nat) : Int) := by rw [Int.natCast_ediv, Int.natCast_mul]; rfl
    have hN : 8 * b.length / K ≤ 8 * b.length := Nat.div_le_self _ _
    generalize 8 * b.length / K = N at *
    repeat' (first | (simp (disch := omega) only [push_cast, ↓reduceIte, Nat.reduceEqDiff, Int.reduceToNat, Nat.reducePow, Int.reducePow, Int.reduceNeg, Nat.reduceMul, Int.reduceMul, Int.reduceAdd, Int.reduceSub, Nat.reduceAdd, Nat.reduceSub, Nat.reduceLeDiff, Int.reduceLT, Int.reduceLE, Int.reduceEq, Int.reduceMod, Int.reduceDiv, reduceCtorEq, not_true_eq_false, not_false_eq_true, eN]) | refine vIfE_of (fun _ => ?_) (fun _ => ?_) | refine vIfD_of (fun _ => ?_) (fun _ => ?_) | refine vIfQ_of (fun _ => ?_) (fun _ => ?_) | refine vIfV_of (fun _ => ?_) (fun _ => ?_) | refine And.intro (by omega) ?_ | refine drawn_q ?_ | fail)
    refine (unpack_c _ b N K w3 (hbs.later hl13) (by omega) (by omega) (by omega)).mono ?_
    rintro _ w4 ⟨⟨z, rfl, hz⟩, hl4⟩
    have hl14 := hl13.trans hl4
    rcases un_71 (b := b) (n := N) hK64 (by omega) with hE | hE
    · obtain ⟨hb1, hb2⟩ := back_ok hK64 (by omega) hE
      have hpn := pk_ok (wid_nums b N K hK64) hK64 (by rw [nums_len]; omega)
      rw [hb1] at hz
      rw [hE]
      obtain ⟨oz, cz, rfl⟩ := hz.slice
      repeat' (first | (simp (disch := omega) only [push_cast, ↓reduceIte, Nat.reduceEqDiff, Int.reduceToNat, Nat.reducePow, Int.reducePow, Int.reduceNeg, Nat.reduceMul, Int.reduceMul, Int.reduceAdd, Int.reduceSub, Nat.reduceAdd, Nat.reduceSub, Nat.reduceLeDiff, Int.reduceLT, Int.reduceLE, Int.reduceEq, Int.reduceMod, Int.reduceDiv, reduceCtorEq, not_true_eq_false, not_false_eq_true]) | refine vIfE_of (fun _ => ?_) (fun _ => ?_) | refine vIfD_of (fun _ => ?_) (fun _ => ?_) | refine vIfQ_of (fun _ => ?_) (fun _ => ?_) | refine vIfV_of (fun _ => ?_) (fun _ => ?_) | refine And.intro (by omega) ?_ | refine drawn_q ?_ | fail)
      refine (pack_c _ (nums b N K) K w4 hz.sl (by rw [nums_len]; omega) (by omega)).mono ?_
      rintro _ w5 ⟨⟨c, rfl, hc⟩, hl5⟩
      rw [hpn.1]
      rw [hpn.2, hb2] at hc
      obtain ⟨oc, cc, rfl⟩ := hc.slice
      repeat' (first | (simp (disch := omega) only [push_cast, ↓reduceIte, Nat.reduceEqDiff, Int.reduceToNat, Nat.reducePow, Int.reducePow, Int.reduceNeg, Nat.reduceMul, Int.reduceMul, Int.reduceAdd, Int.reduceSub, Nat.reduceAdd, Nat.reduceSub, Nat.reduceLeDiff, Int.reduceLT, Int.reduceLE, Int.reduceEq, Int.reduceMod, Int.reduceDiv, reduceCtorEq, not_true_eq_false, not_false_eq_true]) | refine vIfE_of (fun _ => ?_) (fun _ => ?_) | refine vIfD_of (fun _ => ?_) (fun _ => ?_) | refine vIfQ_of (fun _ => ?_) (fun _ => ?_) | refine vIfV_of (fun _ => ?_) (fun _ => ?_) | refine And.intro (by omega) ?_ | refine drawn_q ?_ | fail)
      refine (nalive_c w5).mono ?_
      rintro _ w6 ⟨rfl, hl6⟩
      repeat' (first | (simp (disch := omega) only [push_cast, ↓reduceIte, Nat.reduceEqDiff, Int.reduceToNat, Nat.reducePow, Int.reducePow, Int.reduceNeg, Nat.reduceMul, Int.reduceMul, Int.reduceAdd, Int.reduceSub, Nat.reduceAdd, Nat.reduceSub, Nat.reduceLeDiff, Int.reduceLT, Int.reduceLE, Int.reduceEq, Int.reduceMod, Int.reduceDiv, reduceCtorEq, not_true_eq_false, not_false_eq_true]) | refine vIfE_of (fun _ => ?_) (fun _ => ?_) | refine vIfD_of (fun _ => ?_) (fun _ => ?_) | refine vIfQ_of (fun _ => ?_) (fun _ => ?_) | refine vIfV_of (fun _ => ?_) (fun _ => ?_) | refine And.intro (by omega) ?_ | refine drawn_q ?_ | fail)
      refine vConv_bytes Try.underlying24 Try.underlying9 Try.underlying5 (hc.sl.later hl6) ?_
      repeat' (first | (simp (disch := omega) only [push_cast, ↓reduceIte, Nat.reduceEqDiff, Int.reduceToNat, Nat.reducePow, Int.reducePow, Int.reduceNeg, Nat.reduceMul, Int.reduceMul, Int.reduceAdd, Int.reduceSub, Nat.reduceAdd, Nat.reduceSub, Nat.reduceLeDiff, Int.reduceLT, Int.reduceLE, Int.reduceEq, Int.reduceMod, Int.reduceDiv, reduceCtorEq, not_true_eq_false, not_false_eq_true]) | refine vIfE_of (fun _ => ?_) (fun _ => ?_) | refine vIfD_of (fun _ => ?_) (fun _ => ?_) | refine vIfQ_of (fun _ => ?_) (fun _ => ?_) | refine vIfV_of (fun _ => ?_) (fun _ => ?_) | refine And.intro (by omega) ?_ | refine drawn_q ?_ | fail)
      refine vConv_bytes Try.underlying24 Try.underlying9 Try.underlying5 (hbs.later ((hl14.trans hl5).trans hl6)) ?_
      repeat' (first | (simp (disch := omega) only [push_cast, ↓reduceIte, Nat.reduceEqDiff, Int.reduceToNat, Nat.reducePow, Int.reducePow, Int.reduceNeg, Nat.reduceMul, Int.reduceMul, Int.reduceAdd, Int.reduceSub, Nat.reduceAdd, Nat.reduceSub, Nat.reduceLeDiff, Int.reduceLT, Int.reduceLE, Int.reduceEq, Int.reduceMod, Int.reduceDiv, reduceCtorEq, not_true_eq_false, not_false_eq_true]) | refine vIfE_of (fun _ => ?_) (fun _ => ?_) | refine vIfD_of (fun _ => ?_) (fun _ => ?_) | refine vIfQ_of (fun _ => ?_) (fun _ => ?_) | refine vIfV_of (fun _ => ?_) (fun _ => ?_) | refine And.intro (by omega) ?_ | refine drawn_q ?_ | fail)
      exact (hl14.trans hl5).trans hl6
    · rw [hE]
      repeat' (first | (simp (disch := omega) only [push_cast, ↓reduceIte, Nat.reduceEqDiff, Int.reduceToNat, Nat.reducePow, Int.reducePow, Int.reduceNeg, Nat.reduceMul, Int.reduceMul, Int.reduceAdd, Int.reduceSub, Nat.reduceAdd, Nat.reduceSub, Nat.reduceLeDiff, Int.reduceLT, Int.reduceLE, Int.reduceEq, Int.reduceMod, Int.reduceDiv, reduceCtorEq, not_true_eq_false, not_false_eq_true]) | refine vIfE_of (fun _ => ?_) (fun _ => ?_) | refine vIfD_of (fun _ => ?_) (fun _ => ?_) | refine vIfQ_of (fun _ => ?_) (fun _ => ?_) | refine vIfV_of (fun _ => ?_) (fun _ => ?_) | refine And.intro (by omega) ?_ | refine drawn_q ?_ | fail)
      refine (nalive_c w4).mono ?_
      rintro _ w6 ⟨rfl, hl6⟩
      repeat' (first | (simp (disch := omega) only [push_cast, ↓reduceIte, Nat.reduceEqDiff, Int.reduceToNat, Nat.reducePow, Int.reducePow, Int.reduceNeg, Nat.reduceMul, Int.reduceMul, Int.reduceAdd, Int.reduceSub, Nat.reduceAdd, Nat.reduceSub, Nat.reduceLeDiff, Int.reduceLT, Int.reduceLE, Int.reduceEq, Int.reduceMod, Int.reduceDiv, reduceCtorEq, not_true_eq_false, not_false_eq_true]) | refine vIfE_of (fun _ => ?_) (fun _ => ?_) | refine vIfD_of (fun _ => ?_) (fun _ => ?_) | refine vIfQ_of (fun _ => ?_) (fun _ => ?_) | refine vIfV_of (fun _ => ?_) (fun _ => ?_) | refine And.intro (by omega) ?_ | refine drawn_q ?_ | fail)
      exact hl14.trans hl6
theorem own : ownKnob Try.prog.godebug = none := by kernel_rfl
theorem lifted (os : Os) (started : os.Started) (H : Type) (enc : TypeId × Value → H) :
    ReturnsInHanded {} Try.checked os 7 .any (Rows.nibbleBackSpec.pre6 enc Try.prog Try.f7 Rows.nibbleBackRow.domain false) (Rows.nibbleBackSpec.post enc Try.prog Try.f7 false true false false) := by
  refine lifted_later (C := Try.checked) own started (by kernel_rfl) Try.func7 hb7
    (ChangeSpec.witness6 (enc := enc) (C := Try.checked) false ⟨#[], #[.slice none 0 0, .int .i64 0, .slice none 0 0], []⟩ 7 (by kernel_rfl) (by kernel_rfl) (by kernel_rfl) (by kernel_rfl))
    (by kernel_rfl) (list_all (by kernel_rfl)) (by kernel_rfl) Try.underlying4 rfl ?_ ?_
  · intro ds h
    have h : ds.length = 3 := h
    match ds, h with
    | [_, _, _], _ => rfl
  · intro W base args ds p hval0 hA0
    have hval : ∀ (j : Nat) t v, Try.f7.params[j]? = some t → args[j]? = some v → Value.okWide Try.prog W .any base t v := hval0
    have hA : DataW.TrodAll enc Try.prog W 0 (fun _ => true) true Try.f7.params.toList args.toList ds p := hA0
    rw [Try.params7] at hA hval
    obtain ⟨v0, vs0, d0, ds0, p0, q0, hargs, rfl, rfl, h0, r0⟩ := trodAll_cons hA
    obtain ⟨v1, vs1, d1, ds1, p1, q1, rfl, rfl, rfl, h1, r1⟩ := trodAll_cons r0
    obtain ⟨v2, vs2, d2, ds2, p2, q2, rfl, rfl, rfl, h2, r2⟩ := trodAll_cons r1
    obtain ⟨rfl, rfl, rfl⟩ := trodAll_nil r2
    obtain rfl : args = #[v0, v1, v2] := by cases args; simp_all
    obtain ⟨a0, w0⟩ := open_u64s Try.underlying22 Try.underlying32 (by kernel_rfl) (hval 0 22 v0 rfl rfl) h0
    obtain ⟨a1, rfl, rfl, rfl, w1⟩ := open_int Try.underlying3 (hval 1 3 v1 rfl rfl) h1
    obtain ⟨a2, w2⟩ := open_u8s Try.underlying24 Try.underlying5 (by kernel_rfl) (hval 2 24 v2 rfl rfl) h2
    exact law_c v0 v2 a0 a1 a2 W w0 w2 (i64_of_wf w1)
theorem over : Rows.nibbleBackRow.holds Try.pinned (OpenSpec.ofChange Rows.nibbleBackSpec) :=
  OpenClaim.holds_of_wide 7 Try.f7 rfl rfl rfl rfl rfl rfl rfl ⟨rfl, rfl, rfl, rfl, rfl⟩ rfl rfl rfl rfl rfl (by kernel_rfl) Try.func7 (by kernel_rfl)
    (of_decide_eq_true (by kernel_rfl)) (by unfold Func.isWrapper; first | (rw [if_pos (by decide +kernel)]; kernel_rfl) | (rw [if_neg (by decide +kernel)]; exact ⟨rfl, rfl⟩))
    (fun os started H enc _ => lifted os started H enc)
/-- The statement. -/
theorem proved : Rows.NibbleBackSaid :=
  over
end Go.Proofs.Ytkchefbnamiikaa.nibbleBack
