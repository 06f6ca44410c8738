/- RunsLaws holds for every input: laws of three right sets. -/
import Derived.Test.YtfeocfcclmndoaaRows
import Derived.Test.YtfeocfcclmndoaaRun10
import Derived.Test.YtfeocfcclmndoaaRowP
set_option linter.unusedSimpArgs false
namespace Go.Proofs.Ytfeocfcclmndoaa.runsLaws
open Go.Vc Go.Run Go.ChangeShapes Go.WideShapes Go.ChangeAt Go.RowKit
set_option maxRecDepth 100000
/-- A right set that has just what a formula says. -/
theorem opA_c (a b : Bool) : opA a b = (a && b) := rfl
theorem law_c (va vb vc : Value) (a b c : S) (w : World) (hA : PairS w va a) (hB : PairS w vb b) (hC : PairS w vc c) : FnC Try.prog 10 #[va, vb, vc] w fun v w' => v = .bool true ∧ Later w w' := by
  obtain ⟨oa, ca, rfl, ga, ga2⟩ := hA.slice
  obtain ⟨ob, cb, rfl, gb, gb2⟩ := hB.slice
  obtain ⟨oc, cc, rfl, gc, gc2⟩ := hC.slice
  refine enter10 _ _ _ ?_
  unfold B10
  repeat' (first | (simp (disch := omega) only [push_cast, ↓reduceIte, Nat.reduceEqDiff, Int.reduceToNat, Nat.reducePow, Int.reducePow, Int.reduceNeg, Nat.reduceMul, Int.reduceMul, Int.reduceAdd, Int.reduceSub, Nat.reduceAdd, Nat.reduceSub, Nat.reduceLeDiff, Int.reduceLT, Int.reduceLE, Int.reduceEq, Int.reduceMod, Int.reduceDiv, reduceCtorEq, not_true_eq_false, not_false_eq_true]) | refine vIfE_of (fun _ => ?_) (fun _ => ?_) | refine vIfD_of (fun _ => ?_) (fun _ => ?_) | refine vIfQ_of (fun _ => ?_) (fun _ => ?_) | refine vIfV_of (fun _ => ?_) (fun _ => ?_) | refine And.intro (by omega) ?_ | refine drawn_q ?_ | fail)
  refine (fits_c _ a w hA).mono ?_
  rintro _ w1 ⟨⟨p, rfl, hp⟩, l1⟩
  repeat' (first | (simp (disch := omega) only [push_cast, ↓reduceIte, Nat.reduceEqDiff, Int.reduceToNat, Nat.reducePow, Int.reducePow, Int.reduceNeg, Nat.reduceMul, Int.reduceMul, Int.reduceAdd, Int.reduceSub, Nat.reduceAdd, Nat.reduceSub, Nat.reduceLeDiff, Int.reduceLT, Int.reduceLE, Int.reduceEq, Int.reduceMod, Int.reduceDiv, reduceCtorEq, not_true_eq_false, not_false_eq_true]) | refine vIfE_of (fun _ => ?_) (fun _ => ?_) | refine vIfD_of (fun _ => ?_) (fun _ => ?_) | refine vIfQ_of (fun _ => ?_) (fun _ => ?_) | refine vIfV_of (fun _ => ?_) (fun _ => ?_) | refine And.intro (by omega) ?_ | refine drawn_q ?_ | fail)
  refine (fits_c _ b w1 (hB.later l1)).mono ?_
  rintro _ w2 ⟨⟨q, rfl, hq⟩, l2⟩
  have l02 := l1.trans l2
  repeat' (first | (simp (disch := omega) only [push_cast, ↓reduceIte, Nat.reduceEqDiff, Int.reduceToNat, Nat.reducePow, Int.reducePow, Int.reduceNeg, Nat.reduceMul, Int.reduceMul, Int.reduceAdd, Int.reduceSub, Nat.reduceAdd, Nat.reduceSub, Nat.reduceLeDiff, Int.reduceLT, Int.reduceLE, Int.reduceEq, Int.reduceMod, Int.reduceDiv, reduceCtorEq, not_true_eq_false, not_false_eq_true]) | refine vIfE_of (fun _ => ?_) (fun _ => ?_) | refine vIfD_of (fun _ => ?_) (fun _ => ?_) | refine vIfQ_of (fun _ => ?_) (fun _ => ?_) | refine vIfV_of (fun _ => ?_) (fun _ => ?_) | refine And.intro (by omega) ?_ | refine drawn_q ?_ | fail)
  refine (fits_c _ c w2 (hC.later l02)).mono ?_
  rintro _ w3 ⟨⟨r, rfl, hr⟩, l3⟩
  have l03 := l02.trans l3
  have hno : ¬ (p = true ∧ q = true ∧ r = true) → p = false ∨ (p = true ∧ q = false) ∨ (p = true ∧ q = true ∧ r = false) := by
    cases p <;> cases q <;> cases r <;> simp
  by_cases hpq : p = true ∧ q = true ∧ r = true
  · obtain ⟨rfl, rfl, rfl⟩ := hpq
    clear hno
    obtain ⟨ha, _, _⟩ := hp rfl
    obtain ⟨hb, _, _⟩ := hq rfl
    obtain ⟨hc, _, _⟩ := hr rfl
    clear hp hq hr
    repeat' (first | (simp (disch := omega) only [push_cast, ↓reduceIte, Nat.reduceEqDiff, Int.reduceToNat, Nat.reducePow, Int.reducePow, Int.reduceNeg, Nat.reduceMul, Int.reduceMul, Int.reduceAdd, Int.reduceSub, Nat.reduceAdd, Nat.reduceSub, Nat.reduceLeDiff, Int.reduceLT, Int.reduceLE, Int.reduceEq, Int.reduceMod, Int.reduceDiv, reduceCtorEq, not_true_eq_false, not_false_eq_true]) | refine vIfE_of (fun _ => ?_) (fun _ => ?_) | refine vIfD_of (fun _ => ?_) (fun _ => ?_) | refine vIfQ_of (fun _ => ?_) (fun _ => ?_) | refine vIfV_of (fun _ => ?_) (fun _ => ?_) | refine And.intro (by omega) ?_ | refine drawn_q ?_ | fail)
    have r33 := Later.refl w3
    refine (and_c _ _ a b w3 (hA.later l03) (hB.later l03) ha hb).mono ?_
    rintro x1 w4 ⟨⟨s1, h1, u1⟩, l4⟩
    have l04 := l03.trans l4
    have r1 := u1.1
    have m1_4 := Later.refl w4
    repeat' (first | (simp (disch := omega) only [push_cast, ↓reduceIte, Nat.reduceEqDiff, Int.reduceToNat, Nat.reducePow, Int.reducePow, Int.reduceNeg, Nat.reduceMul, Int.reduceMul, Int.reduceAdd, Int.reduceSub, Nat.reduceAdd, Nat.reduceSub, Nat.reduceLeDiff, Int.reduceLT, Int.reduceLE, Int.reduceEq, Int.reduceMod, Int.reduceDiv, reduceCtorEq, not_true_eq_false, not_false_eq_true]) | refine vIfE_of (fun _ => ?_) (fun _ => ?_) | refine vIfD_of (fun _ => ?_) (fun _ => ?_) | refine vIfQ_of (fun _ => ?_) (fun _ => ?_) | refine vIfV_of (fun _ => ?_) (fun _ => ?_) | refine And.intro (by omega) ?_ | refine drawn_q ?_ | fail)
    refine (and_c _ _ b a w4 (hB.later l04) (hA.later l04) hb ha).mono ?_
    rintro x2 w5 ⟨⟨s2, h2, u2⟩, l5⟩
    have l05 := l04.trans l5
    have m1_5 := m1_4.trans l5
    have r2 := u2.1
    have m2_5 := Later.refl w5
    repeat' (first | (simp (disch := omega) only [push_cast, ↓reduceIte, Nat.reduceEqDiff, Int.reduceToNat, Nat.reducePow, Int.reducePow, Int.reduceNeg, Nat.reduceMul, Int.reduceMul, Int.reduceAdd, Int.reduceSub, Nat.reduceAdd, Nat.reduceSub, Nat.reduceLeDiff, Int.reduceLT, Int.reduceLE, Int.reduceEq, Int.reduceMod, Int.reduceDiv, reduceCtorEq, not_true_eq_false, not_false_eq_true]) | refine vIfE_of (fun _ => ?_) (fun _ => ?_) | refine vIfD_of (fun _ => ?_) (fun _ => ?_) | refine vIfQ_of (fun _ => ?_) (fun _ => ?_) | refine vIfV_of (fun _ => ?_) (fun _ => ?_) | refine And.intro (by omega) ?_ | refine drawn_q ?_ | fail)
    have e12 : s1 = s2 := ext r1 r2 fun x => by
      simp only [u2.2, u1.2, opA, opO, opM]
      generalize has a x = ba
      generalize has b x = bb
      cases ba <;> cases bb <;> rfl
    refine (psame_c _ _ _ _ w5 (h1.s.later m1_5) (h2.s.later m2_5)).mono ?_
    rintro _ w6 ⟨rfl, l6⟩
    have l06 := l05.trans l6
    have m1_6 := m1_5.trans l6
    have m2_6 := m2_5.trans l6
    rw [decide_eq_true e12]
    repeat' (first | (simp (disch := omega) only [push_cast, ↓reduceIte, Nat.reduceEqDiff, Int.reduceToNat, Nat.reducePow, Int.reducePow, Int.reduceNeg, Nat.reduceMul, Int.reduceMul, Int.reduceAdd, Int.reduceSub, Nat.reduceAdd, Nat.reduceSub, Nat.reduceLeDiff, Int.reduceLT, Int.reduceLE, Int.reduceEq, Int.reduceMod, Int.reduceDiv, reduceCtorEq, not_true_eq_false, not_false_eq_true]) | refine vIfE_of (fun _ => ?_) (fun _ => ?_) | refine vIfD_of (fun _ => ?_) (fun _ => ?_) | refine vIfQ_of (fun _ => ?_) (fun _ => ?_) | refine vIfV_of (fun _ => ?_) (fun _ => ?_) | refine And.intro (by omega) ?_ | refine drawn_q ?_ | fail)
    refine (or_c _ _ a b w6 (hA.later l06) (hB.later l06) ha hb).mono ?_
    rintro x3 w7 ⟨⟨s3, h3, u3⟩, l7⟩
    have l07 := l06.trans l7
    have m1_7 := m1_6.trans l7
    have m2_7 := m2_6.trans l7
    have r3 := u3.1
    have m3_7 := Later.refl w7
    repeat' (first | (simp (disch := omega) only [push_cast, ↓reduceIte, Nat.reduceEqDiff, Int.reduceToNat, Nat.reducePow, Int.reducePow, Int.reduceNeg, Nat.reduceMul, Int.reduceMul, Int.reduceAdd, Int.reduceSub, Nat.reduceAdd, Nat.reduceSub, Nat.reduceLeDiff, Int.reduceLT, Int.reduceLE, Int.reduceEq, Int.reduceMod, Int.reduceDiv, reduceCtorEq, not_true_eq_false, not_false_eq_true]) | refine vIfE_of (fun _ => ?_) (fun _ => ?_) | refine vIfD_of (fun _ => ?_) (fun _ => ?_) | refine vIfQ_of (fun _ => ?_) (fun _ => ?_) | refine vIfV_of (fun _ => ?_) (fun _ => ?_) | refine And.intro (by omega) ?_ | refine drawn_q ?_ | fail)
    refine (or_c _ _ b a w7 (hB.later l07) (hA.later l07) hb ha).mono ?_
    rintro x4 w8 ⟨⟨s4, h4, u4⟩, l8⟩
    have l08 := l07.trans l8
    have m1_8 := m1_7.trans l8
    have m2_8 := m2_7.trans l8
    have m3_8 := m3_7.trans l8
    have r4 := u4.1
    have m4_8 := Later.refl w8
    repeat' (first | (simp (disch := omega) only [push_cast, ↓reduceIte, Nat.reduceEqDiff, Int.reduceToNat, Nat.reducePow, Int.reducePow, Int.reduceNeg, Nat.reduceMul, Int.reduceMul, Int.reduceAdd, Int.reduceSub, Nat.reduceAdd, Nat.reduceSub, Nat.reduceLeDiff, Int.reduceLT, Int.reduceLE, Int.reduceEq, Int.reduceMod, Int.reduceDiv, reduceCtorEq, not_true_eq_false, not_false_eq_true]) | refine vIfE_of (fun _ => ?_) (fun _ => ?_) | refine vIfD_of (fun _ => ?_) (fun _ => ?_) | refine vIfQ_of (fun _ => ?_) (fun _ => ?_) | refine vIfV_of (fun _ => ?_) (fun _ => ?_) | refine And.intro (by omega) ?_ | refine drawn_q ?_ | fail)
    have e34 : s3 = s4 := ext r3 r4 fun x => by
      simp only [u4.2, u3.2, opA, opO, opM]
      generalize has a x = ba
      generalize has b x = bb
      cases ba <;> cases bb <;> rfl
    refine (psame_c _ _ _ _ w8 (h3.s.later m3_8) (h4.s.later m4_8)).mono ?_
    rintro _ w9 ⟨rfl, l9⟩
    have l09 := l08.trans l9
    have m1_9 := m1_8.trans l9
    have m2_9 := m2_8.trans l9
    have m3_9 := m3_8.trans l9
    have m4_9 := m4_8.trans l9
    rw [decide_eq_true e34]
    repeat' (first | (simp (disch := omega) only [push_cast, ↓reduceIte, Nat.reduceEqDiff, Int.reduceToNat, Nat.reducePow, Int.reducePow, Int.reduceNeg, Nat.reduceMul, Int.reduceMul, Int.reduceAdd, Int.reduceSub, Nat.reduceAdd, Nat.reduceSub, Nat.reduceLeDiff, Int.reduceLT, Int.reduceLE, Int.reduceEq, Int.reduceMod, Int.reduceDiv, reduceCtorEq, not_true_eq_false, not_false_eq_true]) | refine vIfE_of (fun _ => ?_) (fun _ => ?_) | refine vIfD_of (fun _ => ?_) (fun _ => ?_) | refine vIfQ_of (fun _ => ?_) (fun _ => ?_) | refine vIfV_of (fun _ => ?_) (fun _ => ?_) | refine And.intro (by omega) ?_ | refine drawn_q ?_ | fail)
    refine (or_c _ _ b c w9 (hB.later l09) (hC.later l09) hb hc).mono ?_
    rintro x5 w10 ⟨⟨s5, h5, u5⟩, l10⟩
    have l010 := l09.trans l10
    have m1_10 := m1_9.trans l10
    have m2_10 := m2_9.trans l10
    have m3_10 := m3_9.trans l10
    have m4_10 := m4_9.trans l10
    have r5 := u5.1
    have m5_10 := Later.refl w10
    repeat' (first | (simp (disch := omega) only [push_cast, ↓reduceIte, Nat.reduceEqDiff, Int.reduceToNat, Nat.reducePow, Int.reducePow, Int.reduceNeg, Nat.reduceMul, Int.reduceMul, Int.reduceAdd, Int.reduceSub, Nat.reduceAdd, Nat.reduceSub, Nat.reduceLeDiff, Int.reduceLT, Int.reduceLE, Int.reduceEq, Int.reduceMod, Int.reduceDiv, reduceCtorEq, not_true_eq_false, not_false_eq_true]) | refine vIfE_of (fun _ => ?_) (fun _ => ?_) | refine vIfD_of (fun _ => ?_) (fun _ => ?_) | refine vIfQ_of (fun _ => ?_) (fun _ => ?_) | refine vIfV_of (fun _ => ?_) (fun _ => ?_) | refine And.intro (by omega) ?_ | refine drawn_q ?_ | fail)
    refine (and_c _ _ a s5 w10 (hA.later l010) (h5.s.later m5_10) ha r5).mono ?_
    rintro x6 w11 ⟨⟨s6, h6, u6⟩, l11⟩
    have l011 := l010.trans l11
    have m1_11 := m1_10.trans l11
    have m2_11 := m2_10.trans l11
    have m3_11 := m3_10.trans l11
    have m4_11 := m4_10.trans l11
    have m5_11 := m5_10.trans l11
    have r6 := u6.1
    have m6_11 := Later.refl w11
    repeat' (first | (simp (disch := omega) only [push_cast, ↓reduceIte, Nat.reduceEqDiff, Int.reduceToNat, Nat.reducePow, Int.reducePow, Int.reduceNeg, Nat.reduceMul, Int.reduceMul, Int.reduceAdd, Int.reduceSub, Nat.reduceAdd, Nat.reduceSub, Nat.reduceLeDiff, Int.reduceLT, Int.reduceLE, Int.reduceEq, Int.reduceMod, Int.reduceDiv, reduceCtorEq, not_true_eq_false, not_false_eq_true]) | refine vIfE_of (fun _ => ?_) (fun _ => ?_) | refine vIfD_of (fun _ => ?_) (fun _ => ?_) | refine vIfQ_of (fun _ => ?_) (fun _ => ?_) | refine vIfV_of (fun _ => ?_) (fun _ => ?_) | refine And.intro (by omega) ?_ | refine drawn_q ?_ | fail)
    refine (and_c _ _ a b w11 (hA.later l011) (hB.later l011) ha hb).mono ?_
    rintro x7 w12 ⟨⟨s7, h7, u7⟩, l12⟩
    have l012 := l011.trans l12
    have m1_12 := m1_11.trans l12
    have m2_12 := m2_11.trans l12
    have m3_12 := m3_11.trans l12
    have m4_12 := m4_11.trans l12
    have m5_12 := m5_11.trans l12
    have m6_12 := m6_11.trans l12
    have r7 := u7.1
    have m7_12 := Later.refl w12
    repeat' (first | (simp (disch := omega) only [push_cast, ↓reduceIte, Nat.reduceEqDiff, Int.reduceToNat, Nat.reducePow, Int.reducePow, Int.reduceNeg, Nat.reduceMul, Int.reduceMul, Int.reduceAdd, Int.reduceSub, Nat.reduceAdd, Nat.reduceSub, Nat.reduceLeDiff, Int.reduceLT, Int.reduceLE, Int.reduceEq, Int.reduceMod, Int.reduceDiv, reduceCtorEq, not_true_eq_false, not_false_eq_true]) | refine vIfE_of (fun _ => ?_) (fun _ => ?_) | refine vIfD_of (fun _ => ?_) (fun _ => ?_) | refine vIfQ_of (fun _ => ?_) (fun _ => ?_) | refine vIfV_of (fun _ => ?_) (fun _ => ?_) | refine And.intro (by omega) ?_ | refine drawn_q ?_ | fail)
    refine (and_c _ _ a c w12 (hA.later l012) (hC.later l012) ha hc).mono ?_
    rintro x8 w13 ⟨⟨s8, h8, u8⟩, l13⟩
    have l013 := l012.trans l13
    have m1_13 := m1_12.trans l13
    have m2_13 := m2_12.trans l13
    have m3_13 := m3_12.trans l13
    have m4_13 := m4_12.trans l13
    have m5_13 := m5_12.trans l13
    have m6_13 := m6_12.trans l13
    have m7_13 := m7_12.trans l13
    have r8 := u8.1
    have m8_13 := Later.refl w13
    repeat' (first | (simp (disch := omega) only [push_cast, ↓reduceIte, Nat.reduceEqDiff, Int.reduceToNat, Nat.reducePow, Int.reducePow, Int.reduceNeg, Nat.reduceMul, Int.reduceMul, Int.reduceAdd, Int.reduceSub, Nat.reduceAdd, Nat.reduceSub, Nat.reduceLeDiff, Int.reduceLT, Int.reduceLE, Int.reduceEq, Int.reduceMod, Int.reduceDiv, reduceCtorEq, not_true_eq_false, not_false_eq_true]) | refine vIfE_of (fun _ => ?_) (fun _ => ?_) | refine vIfD_of (fun _ => ?_) (fun _ => ?_) | refine vIfQ_of (fun _ => ?_) (fun _ => ?_) | refine vIfV_of (fun _ => ?_) (fun _ => ?_) | refine And.intro (by omega) ?_ | refine drawn_q ?_ | fail)
    refine (or_c _ _ s7 s8 w13 (h7.s.later m7_13) (h8.s.later m8_13) r7 r8).mono ?_
    rintro x9 w14 ⟨⟨s9, h9, u9⟩, l14⟩
    have l014 := l013.trans l14
    have m1_14 := m1_13.trans l14
    have m2_14 := m2_13.trans l14
    have m3_14 := m3_13.trans l14
    have m4_14 := m4_13.trans l14
    have m5_14 := m5_13.trans l14
    have m6_14 := m6_13.trans l14
    have m7_14 := m7_13.trans l14
    have m8_14 := m8_13.trans l14
    have r9 := u9.1
    have m9_14 := Later.refl w14
    repeat' (first | (simp (disch := omega) only [push_cast, ↓reduceIte, Nat.reduceEqDiff, Int.reduceToNat, Nat.reducePow, Int.reducePow, Int.reduceNeg, Nat.reduceMul, Int.reduceMul, Int.reduceAdd, Int.reduceSub, Nat.reduceAdd, Nat.reduceSub, Nat.reduceLeDiff, Int.reduceLT, Int.reduceLE, Int.reduceEq, Int.reduceMod, Int.reduceDiv, reduceCtorEq, not_true_eq_false, not_false_eq_true]) | refine vIfE_of (fun _ => ?_) (fun _ => ?_) | refine vIfD_of (fun _ => ?_) (fun _ => ?_) | refine vIfQ_of (fun _ => ?_) (fun _ => ?_) | refine vIfV_of (fun _ => ?_) (fun _ => ?_) | refine And.intro (by omega) ?_ | refine drawn_q ?_ | fail)
    have e69 : s6 = s9 := ext r6 r9 fun x => by
      simp only [u9.2, u8.2, u7.2, u6.2, u5.2, opA, opO, opM]
      generalize has a x = ba
      generalize has b x = bb
      generalize has c x = bc
      cases ba <;> cases bb <;> cases bc <;> rfl
    refine (psame_c _ _ _ _ w14 (h6.s.later m6_14) (h9.s.later m9_14)).mono ?_
    rintro _ w15 ⟨rfl, l15⟩
    have l015 := l014.trans l15
    have m1_15 := m1_14.trans l15
    have m2_15 := m2_14.trans l15
    have m3_15 := m3_14.trans l15
    have m4_15 := m4_14.trans l15
    have m5_15 := m5_14.trans l15
    have m6_15 := m6_14.trans l15
    have m7_15 := m7_14.trans l15
    have m8_15 := m8_14.trans l15
    have m9_15 := m9_14.trans l15
    rw [decide_eq_true e69]
    repeat' (first | (simp (disch := omega) only [push_cast, ↓reduceIte, Nat.reduceEqDiff, Int.reduceToNat, Nat.reducePow, Int.reducePow, Int.reduceNeg, Nat.reduceMul, Int.reduceMul, Int.reduceAdd, Int.reduceSub, Nat.reduceAdd, Nat.reduceSub, Nat.reduceLeDiff, Int.reduceLT, Int.reduceLE, Int.reduceEq, Int.reduceMod, Int.reduceDiv, reduceCtorEq, not_true_eq_false, not_false_eq_true]) | refine vIfE_of (fun _ => ?_) (fun _ => ?_) | refine vIfD_of (fun _ => ?_) (fun _ => ?_) | refine vIfQ_of (fun _ => ?_) (fun _ => ?_) | refine vIfV_of (fun _ => ?_) (fun _ => ?_) | refine And.intro (by omega) ?_ | refine drawn_q ?_ | fail)
    refine (minus_c _ _ a b w15 (hA.later l015) (hB.later l015) ha hb).mono ?_
    rintro x10 w16 ⟨⟨s10, h10, u10⟩, l16⟩
    have l016 := l015.trans l16
    have m1_16 := m1_15.trans l16
    have m2_16 := m2_15.trans l16
    have m3_16 := m3_15.trans l16
    have m4_16 := m4_15.trans l16
    have m5_16 := m5_15.trans l16
    have m6_16 := m6_15.trans l16
    have m7_16 := m7_15.trans l16
    have m8_16 := m8_15.trans l16
    have m9_16 := m9_15.trans l16
    have r10 := u10.1
    have m10_16 := Later.refl w16
    repeat' (first | (simp (disch := omega) only [push_cast, ↓reduceIte, Nat.reduceEqDiff, Int.reduceToNat, Nat.reducePow, Int.reducePow, Int.reduceNeg, Nat.reduceMul, Int.reduceMul, Int.reduceAdd, Int.reduceSub, Nat.reduceAdd, Nat.reduceSub, Nat.reduceLeDiff, Int.reduceLT, Int.reduceLE, Int.reduceEq, Int.reduceMod, Int.reduceDiv, reduceCtorEq, not_true_eq_false, not_false_eq_true]) | refine vIfE_of (fun _ => ?_) (fun _ => ?_) | refine vIfD_of (fun _ => ?_) (fun _ => ?_) | refine vIfQ_of (fun _ => ?_) (fun _ => ?_) | refine vIfV_of (fun _ => ?_) (fun _ => ?_) | refine And.intro (by omega) ?_ | refine drawn_q ?_ | fail)
    refine (and_c _ _ a b w16 (hA.later l016) (hB.later l016) ha hb).mono ?_
    rintro x11 w17 ⟨⟨s11, h11, u11⟩, l17⟩
    have l017 := l016.trans l17
    have m1_17 := m1_16.trans l17
    have m2_17 := m2_16.trans l17
    have m3_17 := m3_16.trans l17
    have m4_17 := m4_16.trans l17
    have m5_17 := m5_16.trans l17
    have m6_17 := m6_16.trans l17
    have m7_17 := m7_16.trans l17
    have m8_17 := m8_16.trans l17
    have m9_17 := m9_16.trans l17
    have m10_17 := m10_16.trans l17
    have r11 := u11.1
    have m11_17 := Later.refl w17
    repeat' (first | (simp (disch := omega) only [push_cast, ↓reduceIte, Nat.reduceEqDiff, Int.reduceToNat, Nat.reducePow, Int.reducePow, Int.reduceNeg, Nat.reduceMul, Int.reduceMul, Int.reduceAdd, Int.reduceSub, Nat.reduceAdd, Nat.reduceSub, Nat.reduceLeDiff, Int.reduceLT, Int.reduceLE, Int.reduceEq, Int.reduceMod, Int.reduceDiv, reduceCtorEq, not_true_eq_false, not_false_eq_true]) | refine vIfE_of (fun _ => ?_) (fun _ => ?_) | refine vIfD_of (fun _ => ?_) (fun _ => ?_) | refine vIfQ_of (fun _ => ?_) (fun _ => ?_) | refine vIfV_of (fun _ => ?_) (fun _ => ?_) | refine And.intro (by omega) ?_ | refine drawn_q ?_ | fail)
    refine (or_c _ _ s10 s11 w17 (h10.s.later m10_17) (h11.s.later m11_17) r10 r11).mono ?_
    rintro x12 w18 ⟨⟨s12, h12, u12⟩, l18⟩
    have l018 := l017.trans l18
    have m1_18 := m1_17.trans l18
    have m2_18 := m2_17.trans l18
    have m3_18 := m3_17.trans l18
    have m4_18 := m4_17.trans l18
    have m5_18 := m5_17.trans l18
    have m6_18 := m6_17.trans l18
    have m7_18 := m7_17.trans l18
    have m8_18 := m8_17.trans l18
    have m9_18 := m9_17.trans l18
    have m10_18 := m10_17.trans l18
    have m11_18 := m11_17.trans l18
    have r12 := u12.1
    have m12_18 := Later.refl w18
    repeat' (first | (simp (disch := omega) only [push_cast, ↓reduceIte, Nat.reduceEqDiff, Int.reduceToNat, Nat.reducePow, Int.reducePow, Int.reduceNeg, Nat.reduceMul, Int.reduceMul, Int.reduceAdd, Int.reduceSub, Nat.reduceAdd, Nat.reduceSub, Nat.reduceLeDiff, Int.reduceLT, Int.reduceLE, Int.reduceEq, Int.reduceMod, Int.reduceDiv, reduceCtorEq, not_true_eq_false, not_false_eq_true]) | refine vIfE_of (fun _ => ?_) (fun _ => ?_) | refine vIfD_of (fun _ => ?_) (fun _ => ?_) | refine vIfQ_of (fun _ => ?_) (fun _ => ?_) | refine vIfV_of (fun _ => ?_) (fun _ => ?_) | refine And.intro (by omega) ?_ | refine drawn_q ?_ | fail)
    have e12a : s12 = a := ext r12 ha fun x => by
      simp only [u12.2, u11.2, u10.2, opA, opO, opM]
      generalize has a x = ba
      generalize has b x = bb
      cases ba <;> cases bb <;> rfl
    refine (psame_c _ _ _ _ w18 (h12.s.later m12_18) (hA.later l018)).mono ?_
    rintro _ w19 ⟨rfl, l19⟩
    have l019 := l018.trans l19
    have m1_19 := m1_18.trans l19
    have m2_19 := m2_18.trans l19
    have m3_19 := m3_18.trans l19
    have m4_19 := m4_18.trans l19
    have m5_19 := m5_18.trans l19
    have m6_19 := m6_18.trans l19
    have m7_19 := m7_18.trans l19
    have m8_19 := m8_18.trans l19
    have m9_19 := m9_18.trans l19
    have m10_19 := m10_18.trans l19
    have m11_19 := m11_18.trans l19
    have m12_19 := m12_18.trans l19
    rw [decide_eq_true e12a]
    repeat' (first | (simp (disch := omega) only [push_cast, ↓reduceIte, Nat.reduceEqDiff, Int.reduceToNat, Nat.reducePow, Int.reducePow, Int.reduceNeg, Nat.reduceMul, Int.reduceMul, Int.reduceAdd, Int.reduceSub, Nat.reduceAdd, Nat.reduceSub, Nat.reduceLeDiff, Int.reduceLT, Int.reduceLE, Int.reduceEq, Int.reduceMod, Int.reduceDiv, reduceCtorEq, not_true_eq_false, not_false_eq_true]) | refine vIfE_of (fun _ => ?_) (fun _ => ?_) | refine vIfD_of (fun _ => ?_) (fun _ => ?_) | refine vIfQ_of (fun _ => ?_) (fun _ => ?_) | refine vIfV_of (fun _ => ?_) (fun _ => ?_) | refine And.intro (by omega) ?_ | refine drawn_q ?_ | fail)
    refine (minus_c _ _ a a w19 (hA.later l019) (hA.later l019) ha ha).mono ?_
    rintro x13 w20 ⟨⟨s13, h13, u13⟩, l20⟩
    have l020 := l019.trans l20
    have m1_20 := m1_19.trans l20
    have m2_20 := m2_19.trans l20
    have m3_20 := m3_19.trans l20
    have m4_20 := m4_19.trans l20
    have m5_20 := m5_19.trans l20
    have m6_20 := m6_19.trans l20
    have m7_20 := m7_19.trans l20
    have m8_20 := m8_19.trans l20
    have m9_20 := m9_19.trans l20
    have m10_20 := m10_19.trans l20
    have m11_20 := m11_19.trans l20
    have m12_20 := m12_19.trans l20
    have r13 := u13.1
    have m13_20 := Later.refl w20
    have e13 : s13 = [] := ext (lb := -1) r13 trivial fun x => by rw [u13.2, has_nil]; simp [opM]
    have hz13 := h13.s
    obtain ⟨o13, c13, rfl⟩ := slice_of hz13
    have k13 : ((s13.length : Nat) : Int) = 0 := by rw [e13]; rfl
    repeat' (first | (simp (disch := omega) only [push_cast, ↓reduceIte, Nat.reduceEqDiff, Int.reduceToNat, Nat.reducePow, Int.reducePow, Int.reduceNeg, Nat.reduceMul, Int.reduceMul, Int.reduceAdd, Int.reduceSub, Nat.reduceAdd, Nat.reduceSub, Nat.reduceLeDiff, Int.reduceLT, Int.reduceLE, Int.reduceEq, Int.reduceMod, Int.reduceDiv, reduceCtorEq, not_true_eq_false, not_false_eq_true, k13]) | refine vIfE_of (fun _ => ?_) (fun _ => ?_) | refine vIfD_of (fun _ => ?_) (fun _ => ?_) | refine vIfQ_of (fun _ => ?_) (fun _ => ?_) | refine vIfV_of (fun _ => ?_) (fun _ => ?_) | refine And.intro (by omega) ?_ | refine drawn_q ?_ | fail)
    refine (and_c _ _ a a w20 (hA.later l020) (hA.later l020) ha ha).mono ?_
    rintro x14 w21 ⟨⟨s14, h14, u14⟩, l21⟩
    have l021 := l020.trans l21
    have m1_21 := m1_20.trans l21
    have m2_21 := m2_20.trans l21
    have m3_21 := m3_20.trans l21
    have m4_21 := m4_20.trans l21
    have m5_21 := m5_20.trans l21
    have m6_21 := m6_20.trans l21
    have m7_21 := m7_20.trans l21
    have m8_21 := m8_20.trans l21
    have m9_21 := m9_20.trans l21
    have m10_21 := m10_20.trans l21
    have m11_21 := m11_20.trans l21
    have m12_21 := m12_20.trans l21
    have r14 := u14.1
    have m14_21 := Later.refl w21
    repeat' (first | (simp (disch := omega) only [push_cast, ↓reduceIte, Nat.reduceEqDiff, Int.reduceToNat, Nat.reducePow, Int.reducePow, Int.reduceNeg, Nat.reduceMul, Int.reduceMul, Int.reduceAdd, Int.reduceSub, Nat.reduceAdd, Nat.reduceSub, Nat.reduceLeDiff, Int.reduceLT, Int.reduceLE, Int.reduceEq, Int.reduceMod, Int.reduceDiv, reduceCtorEq, not_true_eq_false, not_false_eq_true]) | refine vIfE_of (fun _ => ?_) (fun _ => ?_) | refine vIfD_of (fun _ => ?_) (fun _ => ?_) | refine vIfQ_of (fun _ => ?_) (fun _ => ?_) | refine vIfV_of (fun _ => ?_) (fun _ => ?_) | refine And.intro (by omega) ?_ | refine drawn_q ?_ | fail)
    have e14a : s14 = a := ext r14 ha fun x => by
      simp only [u14.2, opA, opO, opM]
      generalize has a x = ba
      cases ba <;> rfl
    refine (psame_c _ _ _ _ w21 (h14.s.later m14_21) (hA.later l021)).mono ?_
    rintro _ w22 ⟨rfl, l22⟩
    have l022 := l021.trans l22
    have m1_22 := m1_21.trans l22
    have m2_22 := m2_21.trans l22
    have m3_22 := m3_21.trans l22
    have m4_22 := m4_21.trans l22
    have m5_22 := m5_21.trans l22
    have m6_22 := m6_21.trans l22
    have m7_22 := m7_21.trans l22
    have m8_22 := m8_21.trans l22
    have m9_22 := m9_21.trans l22
    have m10_22 := m10_21.trans l22
    have m11_22 := m11_21.trans l22
    have m12_22 := m12_21.trans l22
    have m14_22 := m14_21.trans l22
    rw [decide_eq_true e14a]
    repeat' (first | (simp (disch := omega) only [push_cast, ↓reduceIte, Nat.reduceEqDiff, Int.reduceToNat, Nat.reducePow, Int.reducePow, Int.reduceNeg, Nat.reduceMul, Int.reduceMul, Int.reduceAdd, Int.reduceSub, Nat.reduceAdd, Nat.reduceSub, Nat.reduceLeDiff, Int.reduceLT, Int.reduceLE, Int.reduceEq, Int.reduceMod, Int.reduceDiv, reduceCtorEq, not_true_eq_false, not_false_eq_true]) | refine vIfE_of (fun _ => ?_) (fun _ => ?_) | refine vIfD_of (fun _ => ?_) (fun _ => ?_) | refine vIfQ_of (fun _ => ?_) (fun _ => ?_) | refine vIfV_of (fun _ => ?_) (fun _ => ?_) | refine And.intro (by omega) ?_ | refine drawn_q ?_ | fail)
    refine (or_c _ _ a a w22 (hA.later l022) (hA.later l022) ha ha).mono ?_
    rintro x15 w23 ⟨⟨s15, h15, u15⟩, l23⟩
    have l023 := l022.trans l23
    have m1_23 := m1_22.trans l23
    have m2_23 := m2_22.trans l23
    have m3_23 := m3_22.trans l23
    have m4_23 := m4_22.trans l23
    have m5_23 := m5_22.trans l23
    have m6_23 := m6_22.trans l23
    have m7_23 := m7_22.trans l23
    have m8_23 := m8_22.trans l23
    have m9_23 := m9_22.trans l23
    have m10_23 := m10_22.trans l23
    have m11_23 := m11_22.trans l23
    have m12_23 := m12_22.trans l23
    have m14_23 := m14_22.trans l23
    have r15 := u15.1
    have m15_23 := Later.refl w23
    repeat' (first | (simp (disch := omega) only [push_cast, ↓reduceIte, Nat.reduceEqDiff, Int.reduceToNat, Nat.reducePow, Int.reducePow, Int.reduceNeg, Nat.reduceMul, Int.reduceMul, Int.reduceAdd, Int.reduceSub, Nat.reduceAdd, Nat.reduceSub, Nat.reduceLeDiff, Int.reduceLT, Int.reduceLE, Int.reduceEq, Int.reduceMod, Int.reduceDiv, reduceCtorEq, not_true_eq_false, not_false_eq_true]) | refine vIfE_of (fun _ => ?_) (fun _ => ?_) | refine vIfD_of (fun _ => ?_) (fun _ => ?_) | refine vIfQ_of (fun _ => ?_) (fun _ => ?_) | refine vIfV_of (fun _ => ?_) (fun _ => ?_) | refine And.intro (by omega) ?_ | refine drawn_q ?_ | fail)
    have e15a : s15 = a := ext r15 ha fun x => by
      simp only [u15.2, opA, opO, opM]
      generalize has a x = ba
      cases ba <;> rfl
    refine (psame_c _ _ _ _ w23 (h15.s.later m15_23) (hA.later l023)).mono ?_
    rintro _ w24 ⟨rfl, l24⟩
    have l024 := l023.trans l24
    have m1_24 := m1_23.trans l24
    have m2_24 := m2_23.trans l24
    have m3_24 := m3_23.trans l24
    have m4_24 := m4_23.trans l24
    have m5_24 := m5_23.trans l24
    have m6_24 := m6_23.trans l24
    have m7_24 := m7_23.trans l24
    have m8_24 := m8_23.trans l24
    have m9_24 := m9_23.trans l24
    have m10_24 := m10_23.trans l24
    have m11_24 := m11_23.trans l24
    have m12_24 := m12_23.trans l24
    have m14_24 := m14_23.trans l24
    have m15_24 := m15_23.trans l24
    rw [decide_eq_true e15a]
    repeat' (first | (simp (disch := omega) only [push_cast, ↓reduceIte, Nat.reduceEqDiff, Int.reduceToNat, Nat.reducePow, Int.reducePow, Int.reduceNeg, Nat.reduceMul, Int.reduceMul, Int.reduceAdd, Int.reduceSub, Nat.reduceAdd, Nat.reduceSub, Nat.reduceLeDiff, Int.reduceLT, Int.reduceLE, Int.reduceEq, Int.reduceMod, Int.reduceDiv, reduceCtorEq, not_true_eq_false, not_false_eq_true]) | refine vIfE_of (fun _ => ?_) (fun _ => ?_) | refine vIfD_of (fun _ => ?_) (fun _ => ?_) | refine vIfQ_of (fun _ => ?_) (fun _ => ?_) | refine vIfV_of (fun _ => ?_) (fun _ => ?_) | refine And.intro (by omega) ?_ | refine drawn_q ?_ | fail)
    refine (upto_c 65536 w24 (by omega)).mono ?_
    rintro x16 w25 ⟨h16, l25⟩
    have l025 := l024.trans l25
    have m1_25 := m1_24.trans l25
    have m2_25 := m2_24.trans l25
    have m3_25 := m3_24.trans l25
    have m4_25 := m4_24.trans l25
    have m5_25 := m5_24.trans l25
    have m6_25 := m6_24.trans l25
    have m7_25 := m7_24.trans l25
    have m8_25 := m8_24.trans l25
    have m9_25 := m9_24.trans l25
    have m10_25 := m10_24.trans l25
    have m11_25 := m11_24.trans l25
    have m12_25 := m12_24.trans l25
    have m14_25 := m14_24.trans l25
    have m15_25 := m15_24.trans l25
    have r16 := upto_rt 65536
    have d16 : ∃ s16, s16 = upto 65536 := ⟨_, rfl⟩
    obtain ⟨s16, d16⟩ := d16
    rw [← d16] at h16 r16
    have m16_25 := Later.refl w25
    repeat' (first | (simp (disch := omega) only [push_cast, ↓reduceIte, Nat.reduceEqDiff, Int.reduceToNat, Nat.reducePow, Int.reducePow, Int.reduceNeg, Nat.reduceMul, Int.reduceMul, Int.reduceAdd, Int.reduceSub, Nat.reduceAdd, Nat.reduceSub, Nat.reduceLeDiff, Int.reduceLT, Int.reduceLE, Int.reduceEq, Int.reduceMod, Int.reduceDiv, reduceCtorEq, not_true_eq_false, not_false_eq_true]) | refine vIfE_of (fun _ => ?_) (fun _ => ?_) | refine vIfD_of (fun _ => ?_) (fun _ => ?_) | refine vIfQ_of (fun _ => ?_) (fun _ => ?_) | refine vIfV_of (fun _ => ?_) (fun _ => ?_) | refine And.intro (by omega) ?_ | refine drawn_q ?_ | fail)
    refine (or_c _ _ a b w25 (hA.later l025) (hB.later l025) ha hb).mono ?_
    rintro x17 w26 ⟨⟨s17, h17, u17⟩, l26⟩
    have l026 := l025.trans l26
    have m1_26 := m1_25.trans l26
    have m2_26 := m2_25.trans l26
    have m3_26 := m3_25.trans l26
    have m4_26 := m4_25.trans l26
    have m5_26 := m5_25.trans l26
    have m6_26 := m6_25.trans l26
    have m7_26 := m7_25.trans l26
    have m8_26 := m8_25.trans l26
    have m9_26 := m9_25.trans l26
    have m10_26 := m10_25.trans l26
    have m11_26 := m11_25.trans l26
    have m12_26 := m12_25.trans l26
    have m14_26 := m14_25.trans l26
    have m15_26 := m15_25.trans l26
    have m16_26 := m16_25.trans l26
    have r17 := u17.1
    have m17_26 := Later.refl w26
    repeat' (first | (simp (disch := omega) only [push_cast, ↓reduceIte, Nat.reduceEqDiff, Int.reduceToNat, Nat.reducePow, Int.reducePow, Int.reduceNeg, Nat.reduceMul, Int.reduceMul, Int.reduceAdd, Int.reduceSub, Nat.reduceAdd, Nat.reduceSub, Nat.reduceLeDiff, Int.reduceLT, Int.reduceLE, Int.reduceEq, Int.reduceMod, Int.reduceDiv, reduceCtorEq, not_true_eq_false, not_false_eq_true]) | refine vIfE_of (fun _ => ?_) (fun _ => ?_) | refine vIfD_of (fun _ => ?_) (fun _ => ?_) | refine vIfQ_of (fun _ => ?_) (fun _ => ?_) | refine vIfV_of (fun _ => ?_) (fun _ => ?_) | refine And.intro (by omega) ?_ | refine drawn_q ?_ | fail)
    refine (minus_c _ _ s16 s17 w26 (h16.s.later m16_26) (h17.s.later m17_26) r16 r17).mono ?_
    rintro x18 w27 ⟨⟨s18, h18, u18⟩, l27⟩
    have l027 := l026.trans l27
    have m1_27 := m1_26.trans l27
    have m2_27 := m2_26.trans l27
    have m3_27 := m3_26.trans l27
    have m4_27 := m4_26.trans l27
    have m5_27 := m5_26.trans l27
    have m6_27 := m6_26.trans l27
    have m7_27 := m7_26.trans l27
    have m8_27 := m8_26.trans l27
    have m9_27 := m9_26.trans l27
    have m10_27 := m10_26.trans l27
    have m11_27 := m11_26.trans l27
    have m12_27 := m12_26.trans l27
    have m14_27 := m14_26.trans l27
    have m15_27 := m15_26.trans l27
    have m16_27 := m16_26.trans l27
    have m17_27 := m17_26.trans l27
    have r18 := u18.1
    have m18_27 := Later.refl w27
    repeat' (first | (simp (disch := omega) only [push_cast, ↓reduceIte, Nat.reduceEqDiff, Int.reduceToNat, Nat.reducePow, Int.reducePow, Int.reduceNeg, Nat.reduceMul, Int.reduceMul, Int.reduceAdd, Int.reduceSub, Nat.reduceAdd, Nat.reduceSub, Nat.reduceLeDiff, Int.reduceLT, Int.reduceLE, Int.reduceEq, Int.reduceMod, Int.reduceDiv, reduceCtorEq, not_true_eq_false, not_false_eq_true]) | refine vIfE_of (fun _ => ?_) (fun _ => ?_) | refine vIfD_of (fun _ => ?_) (fun _ => ?_) | refine vIfQ_of (fun _ => ?_) (fun _ => ?_) | refine vIfV_of (fun _ => ?_) (fun _ => ?_) | refine And.intro (by omega) ?_ | refine drawn_q ?_ | fail)
    refine (minus_c _ _ s16 a w27 (h16.s.later m16_27) (hA.later l027) r16 ha).mono ?_
    rintro x19 w28 ⟨⟨s19, h19, u19⟩, l28⟩
    have l028 := l027.trans l28
    have m1_28 := m1_27.trans l28
    have m2_28 := m2_27.trans l28
    have m3_28 := m3_27.trans l28
    have m4_28 := m4_27.trans l28
    have m5_28 := m5_27.trans l28
    have m6_28 := m6_27.trans l28
    have m7_28 := m7_27.trans l28
    have m8_28 := m8_27.trans l28
    have m9_28 := m9_27.trans l28
    have m10_28 := m10_27.trans l28
    have m11_28 := m11_27.trans l28
    have m12_28 := m12_27.trans l28
    have m14_28 := m14_27.trans l28
    have m15_28 := m15_27.trans l28
    have m16_28 := m16_27.trans l28
    have m17_28 := m17_27.trans l28
    have m18_28 := m18_27.trans l28
    have r19 := u19.1
    have m19_28 := Later.refl w28
    repeat' (first | (simp (disch := omega) only [push_cast, ↓reduceIte, Nat.reduceEqDiff, Int.reduceToNat, Nat.reducePow, Int.reducePow, Int.reduceNeg, Nat.reduceMul, Int.reduceMul, Int.reduceAdd, Int.reduceSub, Nat.reduceAdd, Nat.reduceSub, Nat.reduceLeDiff, Int.reduceLT, Int.reduceLE, Int.reduceEq, Int.reduceMod, Int.reduceDiv, reduceCtorEq, not_true_eq_false, not_false_eq_true]) | refine vIfE_of (fun _ => ?_) (fun _ => ?_) | refine vIfD_of (fun _ => ?_) (fun _ => ?_) | refine vIfQ_of (fun _ => ?_) (fun _ => ?_) | refine vIfV_of (fun _ => ?_) (fun _ => ?_) | refine And.intro (by omega) ?_ | refine drawn_q ?_ | fail)
    refine (minus_c _ _ s16 b w28 (h16.s.later m16_28) (hB.later l028) r16 hb).mono ?_
    rintro x20 w29 ⟨⟨s20, h20, u20⟩, l29⟩
    have l029 := l028.trans l29
    have m1_29 := m1_28.trans l29
    have m2_29 := m2_28.trans l29
    have m3_29 := m3_28.trans l29
    have m4_29 := m4_28.trans l29
    have m5_29 := m5_28.trans l29
    have m6_29 := m6_28.trans l29
    have m7_29 := m7_28.trans l29
    have m8_29 := m8_28.trans l29
    have m9_29 := m9_28.trans l29
    have m10_29 := m10_28.trans l29
    have m11_29 := m11_28.trans l29
    have m12_29 := m12_28.trans l29
    have m14_29 := m14_28.trans l29
    have m15_29 := m15_28.trans l29
    have m16_29 := m16_28.trans l29
    have m17_29 := m17_28.trans l29
    have m18_29 := m18_28.trans l29
    have m19_29 := m19_28.trans l29
    have r20 := u20.1
    have m20_29 := Later.refl w29
    repeat' (first | (simp (disch := omega) only [push_cast, ↓reduceIte, Nat.reduceEqDiff, Int.reduceToNat, Nat.reducePow, Int.reducePow, Int.reduceNeg, Nat.reduceMul, Int.reduceMul, Int.reduceAdd, Int.reduceSub, Nat.reduceAdd, Nat.reduceSub, Nat.reduceLeDiff, Int.reduceLT, Int.reduceLE, Int.reduceEq, Int.reduceMod, Int.reduceDiv, reduceCtorEq, not_true_eq_false, not_false_eq_true]) | refine vIfE_of (fun _ => ?_) (fun _ => ?_) | refine vIfD_of (fun _ => ?_) (fun _ => ?_) | refine vIfQ_of (fun _ => ?_) (fun _ => ?_) | refine vIfV_of (fun _ => ?_) (fun _ => ?_) | refine And.intro (by omega) ?_ | refine drawn_q ?_ | fail)
    refine (and_c _ _ s19 s20 w29 (h19.s.later m19_29) (h20.s.later m20_29) r19 r20).mono ?_
    rintro x21 w30 ⟨⟨s21, h21, u21⟩, l30⟩
    have l030 := l029.trans l30
    have m1_30 := m1_29.trans l30
    have m2_30 := m2_29.trans l30
    have m3_30 := m3_29.trans l30
    have m4_30 := m4_29.trans l30
    have m5_30 := m5_29.trans l30
    have m6_30 := m6_29.trans l30
    have m7_30 := m7_29.trans l30
    have m8_30 := m8_29.trans l30
    have m9_30 := m9_29.trans l30
    have m10_30 := m10_29.trans l30
    have m11_30 := m11_29.trans l30
    have m12_30 := m12_29.trans l30
    have m14_30 := m14_29.trans l30
    have m15_30 := m15_29.trans l30
    have m16_30 := m16_29.trans l30
    have m17_30 := m17_29.trans l30
    have m18_30 := m18_29.trans l30
    have m19_30 := m19_29.trans l30
    have m20_30 := m20_29.trans l30
    have r21 := u21.1
    have m21_30 := Later.refl w30
    repeat' (first | (simp (disch := omega) only [push_cast, ↓reduceIte, Nat.reduceEqDiff, Int.reduceToNat, Nat.reducePow, Int.reducePow, Int.reduceNeg, Nat.reduceMul, Int.reduceMul, Int.reduceAdd, Int.reduceSub, Nat.reduceAdd, Nat.reduceSub, Nat.reduceLeDiff, Int.reduceLT, Int.reduceLE, Int.reduceEq, Int.reduceMod, Int.reduceDiv, reduceCtorEq, not_true_eq_false, not_false_eq_true]) | refine vIfE_of (fun _ => ?_) (fun _ => ?_) | refine vIfD_of (fun _ => ?_) (fun _ => ?_) | refine vIfQ_of (fun _ => ?_) (fun _ => ?_) | refine vIfV_of (fun _ => ?_) (fun _ => ?_) | refine And.intro (by omega) ?_ | refine drawn_q ?_ | fail)
    have e1821 : s18 = s21 := ext r18 r21 fun x => by
      simp only [u21.2, u20.2, u19.2, u18.2, u17.2, opA, opO, opM]
      have ha_ : has a x = true → 0 ≤ x ∧ x < 65536 := fun h => by have := has_gt ha h; omega
      have hb_ : has b x = true → 0 ≤ x ∧ x < 65536 := fun h => by have := has_gt hb h; omega
      rw [show has s16 x = (decide (0 ≤ x) && decide (x < 65536) && decide (x < 65536)) from by rw [d16]; exact upto_has 65536 x]
      revert ha_; generalize has a x = ba
      revert hb_; generalize has b x = bb
      intro kb ka
      by_cases i1 : 0 ≤ x <;> by_cases i2 : x < 65536 <;> cases ba <;> cases bb <;> simp [i1, i2] at * <;> first | done | omega
    refine (psame_c _ _ _ _ w30 (h18.s.later m18_30) (h21.s.later m21_30)).mono ?_
    rintro _ w31 ⟨rfl, l31⟩
    have l031 := l030.trans l31
    have m1_31 := m1_30.trans l31
    have m2_31 := m2_30.trans l31
    have m3_31 := m3_30.trans l31
    have m4_31 := m4_30.trans l31
    have m5_31 := m5_30.trans l31
    have m6_31 := m6_30.trans l31
    have m7_31 := m7_30.trans l31
    have m8_31 := m8_30.trans l31
    have m9_31 := m9_30.trans l31
    have m10_31 := m10_30.trans l31
    have m11_31 := m11_30.trans l31
    have m12_31 := m12_30.trans l31
    have m14_31 := m14_30.trans l31
    have m15_31 := m15_30.trans l31
    have m16_31 := m16_30.trans l31
    have m17_31 := m17_30.trans l31
    have m18_31 := m18_30.trans l31
    have m19_31 := m19_30.trans l31
    have m20_31 := m20_30.trans l31
    have m21_31 := m21_30.trans l31
    rw [decide_eq_true e1821]
    repeat' (first | (simp (disch := omega) only [push_cast, ↓reduceIte, Nat.reduceEqDiff, Int.reduceToNat, Nat.reducePow, Int.reducePow, Int.reduceNeg, Nat.reduceMul, Int.reduceMul, Int.reduceAdd, Int.reduceSub, Nat.reduceAdd, Nat.reduceSub, Nat.reduceLeDiff, Int.reduceLT, Int.reduceLE, Int.reduceEq, Int.reduceMod, Int.reduceDiv, reduceCtorEq, not_true_eq_false, not_false_eq_true]) | refine vIfE_of (fun _ => ?_) (fun _ => ?_) | refine vIfD_of (fun _ => ?_) (fun _ => ?_) | refine vIfQ_of (fun _ => ?_) (fun _ => ?_) | refine vIfV_of (fun _ => ?_) (fun _ => ?_) | refine And.intro (by omega) ?_ | refine drawn_q ?_ | fail)
    refine (minus_c _ _ s16 a w31 (h16.s.later m16_31) (hA.later l031) r16 ha).mono ?_
    rintro x22 w32 ⟨⟨s22, h22, u22⟩, l32⟩
    have l032 := l031.trans l32
    have m1_32 := m1_31.trans l32
    have m2_32 := m2_31.trans l32
    have m3_32 := m3_31.trans l32
    have m4_32 := m4_31.trans l32
    have m5_32 := m5_31.trans l32
    have m6_32 := m6_31.trans l32
    have m7_32 := m7_31.trans l32
    have m8_32 := m8_31.trans l32
    have m9_32 := m9_31.trans l32
    have m10_32 := m10_31.trans l32
    have m11_32 := m11_31.trans l32
    have m12_32 := m12_31.trans l32
    have m14_32 := m14_31.trans l32
    have m15_32 := m15_31.trans l32
    have m16_32 := m16_31.trans l32
    have m17_32 := m17_31.trans l32
    have m18_32 := m18_31.trans l32
    have m19_32 := m19_31.trans l32
    have m20_32 := m20_31.trans l32
    have m21_32 := m21_31.trans l32
    have r22 := u22.1
    have m22_32 := Later.refl w32
    repeat' (first | (simp (disch := omega) only [push_cast, ↓reduceIte, Nat.reduceEqDiff, Int.reduceToNat, Nat.reducePow, Int.reducePow, Int.reduceNeg, Nat.reduceMul, Int.reduceMul, Int.reduceAdd, Int.reduceSub, Nat.reduceAdd, Nat.reduceSub, Nat.reduceLeDiff, Int.reduceLT, Int.reduceLE, Int.reduceEq, Int.reduceMod, Int.reduceDiv, reduceCtorEq, not_true_eq_false, not_false_eq_true]) | refine vIfE_of (fun _ => ?_) (fun _ => ?_) | refine vIfD_of (fun _ => ?_) (fun _ => ?_) | refine vIfQ_of (fun _ => ?_) (fun _ => ?_) | refine vIfV_of (fun _ => ?_) (fun _ => ?_) | refine And.intro (by omega) ?_ | refine drawn_q ?_ | fail)
    refine (minus_c _ _ s16 s22 w32 (h16.s.later m16_32) (h22.s.later m22_32) r16 r22).mono ?_
    rintro x23 w33 ⟨⟨s23, h23, u23⟩, l33⟩
    have l033 := l032.trans l33
    have m1_33 := m1_32.trans l33
    have m2_33 := m2_32.trans l33
    have m3_33 := m3_32.trans l33
    have m4_33 := m4_32.trans l33
    have m5_33 := m5_32.trans l33
    have m6_33 := m6_32.trans l33
    have m7_33 := m7_32.trans l33
    have m8_33 := m8_32.trans l33
    have m9_33 := m9_32.trans l33
    have m10_33 := m10_32.trans l33
    have m11_33 := m11_32.trans l33
    have m12_33 := m12_32.trans l33
    have m14_33 := m14_32.trans l33
    have m15_33 := m15_32.trans l33
    have m16_33 := m16_32.trans l33
    have m17_33 := m17_32.trans l33
    have m18_33 := m18_32.trans l33
    have m19_33 := m19_32.trans l33
    have m20_33 := m20_32.trans l33
    have m21_33 := m21_32.trans l33
    have m22_33 := m22_32.trans l33
    have r23 := u23.1
    have m23_33 := Later.refl w33
    repeat' (first | (simp (disch := omega) only [push_cast, ↓reduceIte, Nat.reduceEqDiff, Int.reduceToNat, Nat.reducePow, Int.reducePow, Int.reduceNeg, Nat.reduceMul, Int.reduceMul, Int.reduceAdd, Int.reduceSub, Nat.reduceAdd, Nat.reduceSub, Nat.reduceLeDiff, Int.reduceLT, Int.reduceLE, Int.reduceEq, Int.reduceMod, Int.reduceDiv, reduceCtorEq, not_true_eq_false, not_false_eq_true]) | refine vIfE_of (fun _ => ?_) (fun _ => ?_) | refine vIfD_of (fun _ => ?_) (fun _ => ?_) | refine vIfQ_of (fun _ => ?_) (fun _ => ?_) | refine vIfV_of (fun _ => ?_) (fun _ => ?_) | refine And.intro (by omega) ?_ | refine drawn_q ?_ | fail)
    have e23a : s23 = a := ext r23 ha fun x => by
      simp only [u23.2, u22.2, opA, opO, opM]
      have ha_ : has a x = true → 0 ≤ x ∧ x < 65536 := fun h => by have := has_gt ha h; omega
      rw [show has s16 x = (decide (0 ≤ x) && decide (x < 65536) && decide (x < 65536)) from by rw [d16]; exact upto_has 65536 x]
      revert ha_; generalize has a x = ba
      intro ka
      by_cases i1 : 0 ≤ x <;> by_cases i2 : x < 65536 <;> cases ba <;> simp [i1, i2] at * <;> first | done | omega
    refine (psame_c _ _ _ _ w33 (h23.s.later m23_33) (hA.later l033)).mono ?_
    rintro _ w34 ⟨rfl, l34⟩
    have l034 := l033.trans l34
    have m1_34 := m1_33.trans l34
    have m2_34 := m2_33.trans l34
    have m3_34 := m3_33.trans l34
    have m4_34 := m4_33.trans l34
    have m5_34 := m5_33.trans l34
    have m6_34 := m6_33.trans l34
    have m7_34 := m7_33.trans l34
    have m8_34 := m8_33.trans l34
    have m9_34 := m9_33.trans l34
    have m10_34 := m10_33.trans l34
    have m11_34 := m11_33.trans l34
    have m12_34 := m12_33.trans l34
    have m14_34 := m14_33.trans l34
    have m15_34 := m15_33.trans l34
    have m16_34 := m16_33.trans l34
    have m17_34 := m17_33.trans l34
    have m18_34 := m18_33.trans l34
    have m19_34 := m19_33.trans l34
    have m20_34 := m20_33.trans l34
    have m21_34 := m21_33.trans l34
    have m22_34 := m22_33.trans l34
    have m23_34 := m23_33.trans l34
    rw [decide_eq_true e23a]
    repeat' (first | (simp (disch := omega) only [push_cast, ↓reduceIte, Nat.reduceEqDiff, Int.reduceToNat, Nat.reducePow, Int.reducePow, Int.reduceNeg, Nat.reduceMul, Int.reduceMul, Int.reduceAdd, Int.reduceSub, Nat.reduceAdd, Nat.reduceSub, Nat.reduceLeDiff, Int.reduceLT, Int.reduceLE, Int.reduceEq, Int.reduceMod, Int.reduceDiv, reduceCtorEq, not_true_eq_false, not_false_eq_true]) | refine vIfE_of (fun _ => ?_) (fun _ => ?_) | refine vIfD_of (fun _ => ?_) (fun _ => ?_) | refine vIfQ_of (fun _ => ?_) (fun _ => ?_) | refine vIfV_of (fun _ => ?_) (fun _ => ?_) | refine And.intro (by omega) ?_ | refine drawn_q ?_ | fail)
    refine (ralive_c w34).mono ?_
    rintro _ w35 ⟨rfl, l35⟩
    have l035 := l034.trans l35
    have m1_35 := m1_34.trans l35
    have m2_35 := m2_34.trans l35
    have m3_35 := m3_34.trans l35
    have m4_35 := m4_34.trans l35
    have m5_35 := m5_34.trans l35
    have m6_35 := m6_34.trans l35
    have m7_35 := m7_34.trans l35
    have m8_35 := m8_34.trans l35
    have m9_35 := m9_34.trans l35
    have m10_35 := m10_34.trans l35
    have m11_35 := m11_34.trans l35
    have m12_35 := m12_34.trans l35
    have m14_35 := m14_34.trans l35
    have m15_35 := m15_34.trans l35
    have m16_35 := m16_34.trans l35
    have m17_35 := m17_34.trans l35
    have m18_35 := m18_34.trans l35
    have m19_35 := m19_34.trans l35
    have m20_35 := m20_34.trans l35
    have m21_35 := m21_34.trans l35
    have m22_35 := m22_34.trans l35
    have m23_35 := m23_34.trans l35
    repeat' (first | (simp (disch := omega) only [push_cast, ↓reduceIte, Nat.reduceEqDiff, Int.reduceToNat, Nat.reducePow, Int.reducePow, Int.reduceNeg, Nat.reduceMul, Int.reduceMul, Int.reduceAdd, Int.reduceSub, Nat.reduceAdd, Nat.reduceSub, Nat.reduceLeDiff, Int.reduceLT, Int.reduceLE, Int.reduceEq, Int.reduceMod, Int.reduceDiv, reduceCtorEq, not_true_eq_false, not_false_eq_true]) | refine vIfE_of (fun _ => ?_) (fun _ => ?_) | refine vIfD_of (fun _ => ?_) (fun _ => ?_) | refine vIfQ_of (fun _ => ?_) (fun _ => ?_) | refine vIfV_of (fun _ => ?_) (fun _ => ?_) | refine And.intro (by omega) ?_ | refine drawn_q ?_ | fail)
    refine (or_c _ _ a b w35 (hA.later l035) (hB.later l035) ha hb).mono ?_
    rintro x24 w36 ⟨⟨s24, h24, u24⟩, l36⟩
    have l036 := l035.trans l36
    have m1_36 := m1_35.trans l36
    have m2_36 := m2_35.trans l36
    have m3_36 := m3_35.trans l36
    have m4_36 := m4_35.trans l36
    have m5_36 := m5_35.trans l36
    have m6_36 := m6_35.trans l36
    have m7_36 := m7_35.trans l36
    have m8_36 := m8_35.trans l36
    have m9_36 := m9_35.trans l36
    have m10_36 := m10_35.trans l36
    have m11_36 := m11_35.trans l36
    have m12_36 := m12_35.trans l36
    have m14_36 := m14_35.trans l36
    have m15_36 := m15_35.trans l36
    have m16_36 := m16_35.trans l36
    have m17_36 := m17_35.trans l36
    have m18_36 := m18_35.trans l36
    have m19_36 := m19_35.trans l36
    have m20_36 := m20_35.trans l36
    have m21_36 := m21_35.trans l36
    have m22_36 := m22_35.trans l36
    have m23_36 := m23_35.trans l36
    have r24 := u24.1
    have m24_36 := Later.refl w36
    repeat' (first | (simp (disch := omega) only [push_cast, ↓reduceIte, Nat.reduceEqDiff, Int.reduceToNat, Nat.reducePow, Int.reducePow, Int.reduceNeg, Nat.reduceMul, Int.reduceMul, Int.reduceAdd, Int.reduceSub, Nat.reduceAdd, Nat.reduceSub, Nat.reduceLeDiff, Int.reduceLT, Int.reduceLE, Int.reduceEq, Int.reduceMod, Int.reduceDiv, reduceCtorEq, not_true_eq_false, not_false_eq_true]) | refine vIfE_of (fun _ => ?_) (fun _ => ?_) | refine vIfD_of (fun _ => ?_) (fun _ => ?_) | refine vIfQ_of (fun _ => ?_) (fun _ => ?_) | refine vIfV_of (fun _ => ?_) (fun _ => ?_) | refine And.intro (by omega) ?_ | refine drawn_q ?_ | fail)
    refine (right_c _ _ w36 (h24.s.later m24_36)).mono ?_
    rintro _ w37 ⟨rfl, l37⟩
    have l037 := l036.trans l37
    have m1_37 := m1_36.trans l37
    have m2_37 := m2_36.trans l37
    have m3_37 := m3_36.trans l37
    have m4_37 := m4_36.trans l37
    have m5_37 := m5_36.trans l37
    have m6_37 := m6_36.trans l37
    have m7_37 := m7_36.trans l37
    have m8_37 := m8_36.trans l37
    have m9_37 := m9_36.trans l37
    have m10_37 := m10_36.trans l37
    have m11_37 := m11_36.trans l37
    have m12_37 := m12_36.trans l37
    have m14_37 := m14_36.trans l37
    have m15_37 := m15_36.trans l37
    have m16_37 := m16_36.trans l37
    have m17_37 := m17_36.trans l37
    have m18_37 := m18_36.trans l37
    have m19_37 := m19_36.trans l37
    have m20_37 := m20_36.trans l37
    have m21_37 := m21_36.trans l37
    have m22_37 := m22_36.trans l37
    have m23_37 := m23_36.trans l37
    have m24_37 := m24_36.trans l37
    rw [decide_eq_true r24]
    repeat' (first | (simp (disch := omega) only [push_cast, ↓reduceIte, Nat.reduceEqDiff, Int.reduceToNat, Nat.reducePow, Int.reducePow, Int.reduceNeg, Nat.reduceMul, Int.reduceMul, Int.reduceAdd, Int.reduceSub, Nat.reduceAdd, Nat.reduceSub, Nat.reduceLeDiff, Int.reduceLT, Int.reduceLE, Int.reduceEq, Int.reduceMod, Int.reduceDiv, reduceCtorEq, not_true_eq_false, not_false_eq_true]) | refine vIfE_of (fun _ => ?_) (fun _ => ?_) | refine vIfD_of (fun _ => ?_) (fun _ => ?_) | refine vIfQ_of (fun _ => ?_) (fun _ => ?_) | refine vIfV_of (fun _ => ?_) (fun _ => ?_) | refine And.intro (by omega) ?_ | refine drawn_q ?_ | fail)
    refine (minus_c _ _ s16 a w37 (h16.s.later m16_37) (hA.later l037) r16 ha).mono ?_
    rintro x25 w38 ⟨⟨s25, h25, u25⟩, l38⟩
    have l038 := l037.trans l38
    have m1_38 := m1_37.trans l38
    have m2_38 := m2_37.trans l38
    have m3_38 := m3_37.trans l38
    have m4_38 := m4_37.trans l38
    have m5_38 := m5_37.trans l38
    have m6_38 := m6_37.trans l38
    have m7_38 := m7_37.trans l38
    have m8_38 := m8_37.trans l38
    have m9_38 := m9_37.trans l38
    have m10_38 := m10_37.trans l38
    have m11_38 := m11_37.trans l38
    have m12_38 := m12_37.trans l38
    have m14_38 := m14_37.trans l38
    have m15_38 := m15_37.trans l38
    have m16_38 := m16_37.trans l38
    have m17_38 := m17_37.trans l38
    have m18_38 := m18_37.trans l38
    have m19_38 := m19_37.trans l38
    have m20_38 := m20_37.trans l38
    have m21_38 := m21_37.trans l38
    have m22_38 := m22_37.trans l38
    have m23_38 := m23_37.trans l38
    have m24_38 := m24_37.trans l38
    have r25 := u25.1
    have m25_38 := Later.refl w38
    repeat' (first | (simp (disch := omega) only [push_cast, ↓reduceIte, Nat.reduceEqDiff, Int.reduceToNat, Nat.reducePow, Int.reducePow, Int.reduceNeg, Nat.reduceMul, Int.reduceMul, Int.reduceAdd, Int.reduceSub, Nat.reduceAdd, Nat.reduceSub, Nat.reduceLeDiff, Int.reduceLT, Int.reduceLE, Int.reduceEq, Int.reduceMod, Int.reduceDiv, reduceCtorEq, not_true_eq_false, not_false_eq_true]) | refine vIfE_of (fun _ => ?_) (fun _ => ?_) | refine vIfD_of (fun _ => ?_) (fun _ => ?_) | refine vIfQ_of (fun _ => ?_) (fun _ => ?_) | refine vIfV_of (fun _ => ?_) (fun _ => ?_) | refine And.intro (by omega) ?_ | refine drawn_q ?_ | fail)
    refine (right_c _ _ w38 (h25.s.later m25_38)).mono ?_
    rintro _ w39 ⟨rfl, l39⟩
    have l039 := l038.trans l39
    have m1_39 := m1_38.trans l39
    have m2_39 := m2_38.trans l39
    have m3_39 := m3_38.trans l39
    have m4_39 := m4_38.trans l39
    have m5_39 := m5_38.trans l39
    have m6_39 := m6_38.trans l39
    have m7_39 := m7_38.trans l39
    have m8_39 := m8_38.trans l39
    have m9_39 := m9_38.trans l39
    have m10_39 := m10_38.trans l39
    have m11_39 := m11_38.trans l39
    have m12_39 := m12_38.trans l39
    have m14_39 := m14_38.trans l39
    have m15_39 := m15_38.trans l39
    have m16_39 := m16_38.trans l39
    have m17_39 := m17_38.trans l39
    have m18_39 := m18_38.trans l39
    have m19_39 := m19_38.trans l39
    have m20_39 := m20_38.trans l39
    have m21_39 := m21_38.trans l39
    have m22_39 := m22_38.trans l39
    have m23_39 := m23_38.trans l39
    have m24_39 := m24_38.trans l39
    have m25_39 := m25_38.trans l39
    rw [decide_eq_true r25]
    repeat' (first | (simp (disch := omega) only [push_cast, ↓reduceIte, Nat.reduceEqDiff, Int.reduceToNat, Nat.reducePow, Int.reducePow, Int.reduceNeg, Nat.reduceMul, Int.reduceMul, Int.reduceAdd, Int.reduceSub, Nat.reduceAdd, Nat.reduceSub, Nat.reduceLeDiff, Int.reduceLT, Int.reduceLE, Int.reduceEq, Int.reduceMod, Int.reduceDiv, reduceCtorEq, not_true_eq_false, not_false_eq_true]) | refine vIfE_of (fun _ => ?_) (fun _ => ?_) | refine vIfD_of (fun _ => ?_) (fun _ => ?_) | refine vIfQ_of (fun _ => ?_) (fun _ => ?_) | refine vIfV_of (fun _ => ?_) (fun _ => ?_) | refine And.intro (by omega) ?_ | refine drawn_q ?_ | fail)
    first | exact ⟨trivial, l039⟩ | exact l039
  · rcases hno hpq with rfl | ⟨rfl, rfl⟩ | ⟨rfl, rfl, rfl⟩
    · cases q <;> cases r
      · repeat' (first | (simp (disch := omega) only [push_cast, ↓reduceIte, Nat.reduceEqDiff, Int.reduceToNat, Nat.reducePow, Int.reducePow, Int.reduceNeg, Nat.reduceMul, Int.reduceMul, Int.reduceAdd, Int.reduceSub, Nat.reduceAdd, Nat.reduceSub, Nat.reduceLeDiff, Int.reduceLT, Int.reduceLE, Int.reduceEq, Int.reduceMod, Int.reduceDiv, reduceCtorEq, not_true_eq_false, not_false_eq_true]) | refine vIfE_of (fun _ => ?_) (fun _ => ?_) | refine vIfD_of (fun _ => ?_) (fun _ => ?_) | refine vIfQ_of (fun _ => ?_) (fun _ => ?_) | refine vIfV_of (fun _ => ?_) (fun _ => ?_) | refine And.intro (by omega) ?_ | refine drawn_q ?_ | fail)
        refine (ralive_c w3).mono ?_
        rintro _ w4 ⟨rfl, l4⟩
        repeat' (first | (simp (disch := omega) only [push_cast, ↓reduceIte, Nat.reduceEqDiff, Int.reduceToNat, Nat.reducePow, Int.reducePow, Int.reduceNeg, Nat.reduceMul, Int.reduceMul, Int.reduceAdd, Int.reduceSub, Nat.reduceAdd, Nat.reduceSub, Nat.reduceLeDiff, Int.reduceLT, Int.reduceLE, Int.reduceEq, Int.reduceMod, Int.reduceDiv, reduceCtorEq, not_true_eq_false, not_false_eq_true]) | refine vIfE_of (fun _ => ?_) (fun _ => ?_) | refine vIfD_of (fun _ => ?_) (fun _ => ?_) | refine vIfQ_of (fun _ => ?_) (fun _ => ?_) | refine vIfV_of (fun _ => ?_) (fun _ => ?_) | refine And.intro (by omega) ?_ | refine drawn_q ?_ | fail)
        exact l03.trans l4
      · repeat' (first | (simp (disch := omega) only [push_cast, ↓reduceIte, Nat.reduceEqDiff, Int.reduceToNat, Nat.reducePow, Int.reducePow, Int.reduceNeg, Nat.reduceMul, Int.reduceMul, Int.reduceAdd, Int.reduceSub, Nat.reduceAdd, Nat.reduceSub, Nat.reduceLeDiff, Int.reduceLT, Int.reduceLE, Int.reduceEq, Int.reduceMod, Int.reduceDiv, reduceCtorEq, not_true_eq_false, not_false_eq_true]) | refine vIfE_of (fun _ => ?_) (fun _ => ?_) | refine vIfD_of (fun _ => ?_) (fun _ => ?_) | refine vIfQ_of (fun _ => ?_) (fun _ => ?_) | refine vIfV_of (fun _ => ?_) (fun _ => ?_) | refine And.intro (by omega) ?_ | refine drawn_q ?_ | fail)
        refine (ralive_c w3).mono ?_
        rintro _ w4 ⟨rfl, l4⟩
        repeat' (first | (simp (disch := omega) only [push_cast, ↓reduceIte, Nat.reduceEqDiff, Int.reduceToNat, Nat.reducePow, Int.reducePow, Int.reduceNeg, Nat.reduceMul, Int.reduceMul, Int.reduceAdd, Int.reduceSub, Nat.reduceAdd, Nat.reduceSub, Nat.reduceLeDiff, Int.reduceLT, Int.reduceLE, Int.reduceEq, Int.reduceMod, Int.reduceDiv, reduceCtorEq, not_true_eq_false, not_false_eq_true]) | refine vIfE_of (fun _ => ?_) (fun _ => ?_) | refine vIfD_of (fun _ => ?_) (fun _ => ?_) | refine vIfQ_of (fun _ => ?_) (fun _ => ?_) | refine vIfV_of (fun _ => ?_) (fun _ => ?_) | refine And.intro (by omega) ?_ | refine drawn_q ?_ | fail)
        exact l03.trans l4
      · repeat' (first | (simp (disch := omega) only [push_cast, ↓reduceIte, Nat.reduceEqDiff, Int.reduceToNat, Nat.reducePow, Int.reducePow, Int.reduceNeg, Nat.reduceMul, Int.reduceMul, Int.reduceAdd, Int.reduceSub, Nat.reduceAdd, Nat.reduceSub, Nat.reduceLeDiff, Int.reduceLT, Int.reduceLE, Int.reduceEq, Int.reduceMod, Int.reduceDiv, reduceCtorEq, not_true_eq_false, not_false_eq_true]) | refine vIfE_of (fun _ => ?_) (fun _ => ?_) | refine vIfD_of (fun _ => ?_) (fun _ => ?_) | refine vIfQ_of (fun _ => ?_) (fun _ => ?_) | refine vIfV_of (fun _ => ?_) (fun _ => ?_) | refine And.intro (by omega) ?_ | refine drawn_q ?_ | fail)
        refine (ralive_c w3).mono ?_
        rintro _ w4 ⟨rfl, l4⟩
        repeat' (first | (simp (disch := omega) only [push_cast, ↓reduceIte, Nat.reduceEqDiff, Int.reduceToNat, Nat.reducePow, Int.reducePow, Int.reduceNeg, Nat.reduceMul, Int.reduceMul, Int.reduceAdd, Int.reduceSub, Nat.reduceAdd, Nat.reduceSub, Nat.reduceLeDiff, Int.reduceLT, Int.reduceLE, Int.reduceEq, Int.reduceMod, Int.reduceDiv, reduceCtorEq, not_true_eq_false, not_false_eq_true]) | refine vIfE_of (fun _ => ?_) (fun _ => ?_) | refine vIfD_of (fun _ => ?_) (fun _ => ?_) | refine vIfQ_of (fun _ => ?_) (fun _ => ?_) | refine vIfV_of (fun _ => ?_) (fun _ => ?_) | refine And.intro (by omega) ?_ | refine drawn_q ?_ | fail)
        exact l03.trans l4
      · repeat' (first | (simp (disch := omega) only [push_cast, ↓reduceIte, Nat.reduceEqDiff, Int.reduceToNat, Nat.reducePow, Int.reducePow, Int.reduceNeg, Nat.reduceMul, Int.reduceMul, Int.reduceAdd, Int.reduceSub, Nat.reduceAdd, Nat.reduceSub, Nat.reduceLeDiff, Int.reduceLT, Int.reduceLE, Int.reduceEq, Int.reduceMod, Int.reduceDiv, reduceCtorEq, not_true_eq_false, not_false_eq_true]) | refine vIfE_of (fun _ => ?_) (fun _ => ?_) | refine vIfD_of (fun _ => ?_) (fun _ => ?_) | refine vIfQ_of (fun _ => ?_) (fun _ => ?_) | refine vIfV_of (fun _ => ?_) (fun _ => ?_) | refine And.intro (by omega) ?_ | refine drawn_q ?_ | fail)
        refine (ralive_c w3).mono ?_
        rintro _ w4 ⟨rfl, l4⟩
        repeat' (first | (simp (disch := omega) only [push_cast, ↓reduceIte, Nat.reduceEqDiff, Int.reduceToNat, Nat.reducePow, Int.reducePow, Int.reduceNeg, Nat.reduceMul, Int.reduceMul, Int.reduceAdd, Int.reduceSub, Nat.reduceAdd, Nat.reduceSub, Nat.reduceLeDiff, Int.reduceLT, Int.reduceLE, Int.reduceEq, Int.reduceMod, Int.reduceDiv, reduceCtorEq, not_true_eq_false, not_false_eq_true]) | refine vIfE_of (fun _ => ?_) (fun _ => ?_) | refine vIfD_of (fun _ => ?_) (fun _ => ?_) | refine vIfQ_of (fun _ => ?_) (fun _ => ?_) | refine vIfV_of (fun _ => ?_) (fun _ => ?_) | refine And.intro (by omega) ?_ | refine drawn_q ?_ | fail)
        exact l03.trans l4
    · cases r
      · repeat' (first | (simp (disch := omega) only [push_cast, ↓reduceIte, Nat.reduceEqDiff, Int.reduceToNat, Nat.reducePow, Int.reducePow, Int.reduceNeg, Nat.reduceMul, Int.reduceMul, Int.reduceAdd, Int.reduceSub, Nat.reduceAdd, Nat.reduceSub, Nat.reduceLeDiff, Int.reduceLT, Int.reduceLE, Int.reduceEq, Int.reduceMod, Int.reduceDiv, reduceCtorEq, not_true_eq_false, not_false_eq_true]) | refine vIfE_of (fun _ => ?_) (fun _ => ?_) | refine vIfD_of (fun _ => ?_) (fun _ => ?_) | refine vIfQ_of (fun _ => ?_) (fun _ => ?_) | refine vIfV_of (fun _ => ?_) (fun _ => ?_) | refine And.intro (by omega) ?_ | refine drawn_q ?_ | fail)
        refine (ralive_c w3).mono ?_
        rintro _ w4 ⟨rfl, l4⟩
        repeat' (first | (simp (disch := omega) only [push_cast, ↓reduceIte, Nat.reduceEqDiff, Int.reduceToNat, Nat.reducePow, Int.reducePow, Int.reduceNeg, Nat.reduceMul, Int.reduceMul, Int.reduceAdd, Int.reduceSub, Nat.reduceAdd, Nat.reduceSub, Nat.reduceLeDiff, Int.reduceLT, Int.reduceLE, Int.reduceEq, Int.reduceMod, Int.reduceDiv, reduceCtorEq, not_true_eq_false, not_false_eq_true]) | refine vIfE_of (fun _ => ?_) (fun _ => ?_) | refine vIfD_of (fun _ => ?_) (fun _ => ?_) | refine vIfQ_of (fun _ => ?_) (fun _ => ?_) | refine vIfV_of (fun _ => ?_) (fun _ => ?_) | refine And.intro (by omega) ?_ | refine drawn_q ?_ | fail)
        exact l03.trans l4
      · repeat' (first | (simp (disch := omega) only [push_cast, ↓reduceIte, Nat.reduceEqDiff, Int.reduceToNat, Nat.reducePow, Int.reducePow, Int.reduceNeg, Nat.reduceMul, Int.reduceMul, Int.reduceAdd, Int.reduceSub, Nat.reduceAdd, Nat.reduceSub, Nat.reduceLeDiff, Int.reduceLT, Int.reduceLE, Int.reduceEq, Int.reduceMod, Int.reduceDiv, reduceCtorEq, not_true_eq_false, not_false_eq_true]) | refine vIfE_of (fun _ => ?_) (fun _ => ?_) | refine vIfD_of (fun _ => ?_) (fun _ => ?_) | refine vIfQ_of (fun _ => ?_) (fun _ => ?_) | refine vIfV_of (fun _ => ?_) (fun _ => ?_) | refine And.intro (by omega) ?_ | refine drawn_q ?_ | fail)
        refine (ralive_c w3).mono ?_
        rintro _ w4 ⟨rfl, l4⟩
        repeat' (first | (simp (disch := omega) only [push_cast, ↓reduceIte, Nat.reduceEqDiff, Int.reduceToNat, Nat.reducePow, Int.reducePow, Int.reduceNeg, Nat.reduceMul, Int.reduceMul, Int.reduceAdd, Int.reduceSub, Nat.reduceAdd, Nat.reduceSub, Nat.reduceLeDiff, Int.reduceLT, Int.reduceLE, Int.reduceEq, Int.reduceMod, Int.reduceDiv, reduceCtorEq, not_true_eq_false, not_false_eq_true]) | refine vIfE_of (fun _ => ?_) (fun _ => ?_) | refine vIfD_of (fun _ => ?_) (fun _ => ?_) | refine vIfQ_of (fun _ => ?_) (fun _ => ?_) | refine vIfV_of (fun _ => ?_) (fun _ => ?_) | refine And.intro (by omega) ?_ | refine drawn_q ?_ | fail)
        exact l03.trans l4
    · repeat' (first | (simp (disch := omega) only [push_cast, ↓reduceIte, Nat.reduceEqDiff, Int.reduceToNat, Nat.reducePow, Int.reducePow, Int.reduceNeg, Nat.reduceMul, Int.reduceMul, Int.reduceAdd, Int.reduceSub, Nat.reduceAdd, Nat.reduceSub, Nat.reduceLeDiff, Int.reduceLT, Int.reduceLE, Int.reduceEq, Int.reduceMod, Int.reduceDiv, reduceCtorEq, not_true_eq_false, not_false_eq_true]) | refine vIfE_of (fun _ => ?_) (fun _ => ?_) | refine vIfD_of (fun _ => ?_) (fun _ => ?_) | refine vIfQ_of (fun _ => ?_) (fun _ => ?_) | refine vIfV_of (fun _ => ?_) (fun _ => ?_) | refine And.intro (by omega) ?_ | refine drawn_q ?_ | fail)
      refine (ralive_c w3).mono ?_
      rintro _ w4 ⟨rfl, l4⟩
      repeat' (first | (simp (disch := omega) only [push_cast, ↓reduceIte, Nat.reduceEqDiff, Int.reduceToNat, Nat.reducePow, Int.reducePow, Int.reduceNeg, Nat.reduceMul, Int.reduceMul, Int.reduceAdd, Int.reduceSub, Nat.reduceAdd, Nat.reduceSub, Nat.reduceLeDiff, Int.reduceLT, Int.reduceLE, Int.reduceEq, Int.reduceMod, Int.reduceDiv, reduceCtorEq, not_true_eq_false, not_false_eq_true]) | refine vIfE_of (fun _ => ?_) (fun _ => ?_) | refine vIfD_of (fun _ => ?_) (fun _ => ?_) | refine vIfQ_of (fun _ => ?_) (fun _ => ?_) | refine vIfV_of (fun _ => ?_) (fun _ => ?_) | refine And.intro (by omega) ?_ | refine drawn_q ?_ | fail)
      exact l03.trans l4
theorem own : ownKnob Try.prog.godebug = none := by kernel_rfl
theorem lifted (os : Os) (started : os.Started) (H : Type) (enc : TypeId × Value → H) :
    ReturnsInHanded {} Try.checked os 10 .any (Rows.runsLawsSpec.pre6 enc Try.prog Try.f10 Rows.runsLawsRow.domain false) (Rows.runsLawsSpec.post enc Try.prog Try.f10 false true false false) := by
  refine lifted_later (C := Try.checked) own started (by kernel_rfl) Try.func10 hb10
    (ChangeSpec.witness6 (enc := enc) (C := Try.checked) false ⟨#[], #[.slice none 0 0, .slice none 0 0, .slice none 0 0], []⟩ 10 (by kernel_rfl) (by kernel_rfl) (by kernel_rfl) (by kernel_rfl))
    (by kernel_rfl) (list_all (by kernel_rfl)) (by kernel_rfl) Try.underlying4 rfl ?_ ?_
  · intro ds h
    have h : ds.length = 3 := h
    match ds, h with
    | [_, _, _], _ => rfl
  · intro W base args ds p hval0 hA0
    have hval : ∀ (j : Nat) t v, Try.f10.params[j]? = some t → args[j]? = some v → Value.okWide Try.prog W .any base t v := hval0
    have hA : DataW.TrodAll enc Try.prog W 0 (fun _ => true) true Try.f10.params.toList args.toList ds p := hA0
    rw [Try.params10] at hA hval
    obtain ⟨v0, vs0, d0, ds0, p0, q0, hargs, rfl, rfl, h0, r0⟩ := trodAll_cons hA
    obtain ⟨v1, vs1, d1, ds1, p1, q1, rfl, rfl, rfl, h1, r1⟩ := trodAll_cons r0
    obtain ⟨v2, vs2, d2, ds2, p2, q2, rfl, rfl, rfl, h2, r2⟩ := trodAll_cons r1
    obtain ⟨rfl, rfl, rfl⟩ := trodAll_nil r2
    obtain rfl : args = #[v0, v1, v2] := by cases args; simp_all
    obtain ⟨a0, w0⟩ := open_runs Try.underlying22 Try.underlying63 Try.underlying3 ⟨by kernel_rfl, by kernel_rfl⟩ ⟨rfl, rfl, rfl, rfl⟩ (hval 0 22 v0 rfl rfl) h0
    obtain ⟨a1, w1⟩ := open_runs Try.underlying22 Try.underlying63 Try.underlying3 ⟨by kernel_rfl, by kernel_rfl⟩ ⟨rfl, rfl, rfl, rfl⟩ (hval 1 22 v1 rfl rfl) h1
    obtain ⟨a2, w2⟩ := open_runs Try.underlying22 Try.underlying63 Try.underlying3 ⟨by kernel_rfl, by kernel_rfl⟩ ⟨rfl, rfl, rfl, rfl⟩ (hval 2 22 v2 rfl rfl) h2
    exact law_c v0 v1 v2 a0 a1 a2 W w0 w1 w2
theorem over : Rows.runsLawsRow.holds Try.pinned (OpenSpec.ofChange Rows.runsLawsSpec) :=
  OpenClaim.holds_of_wide 10 Try.f10 rfl rfl rfl rfl rfl rfl rfl ⟨rfl, rfl, rfl, rfl, rfl⟩ rfl rfl rfl rfl rfl (by kernel_rfl) Try.func10 (by kernel_rfl)
    (of_decide_eq_true (by kernel_rfl)) (by unfold Func.isWrapper; first | (rw [if_pos (by decide +kernel)]; kernel_rfl) | (rw [if_neg (by decide +kernel)]; exact ⟨rfl, rfl⟩))
    (fun os started H enc _ => lifted os started H enc)
/-- The statement. -/
theorem proved : Rows.RunsLawsSaid :=
  over
end Go.Proofs.Ytfeocfcclmndoaa.runsLaws
