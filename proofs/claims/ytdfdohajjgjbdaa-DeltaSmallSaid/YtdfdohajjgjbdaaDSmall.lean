/- DeltaSmall holds for every input: numbers that rise by small steps have few bytes. -/
import Derived.Test.YtdfdohajjgjbdaaRows
import Derived.Test.YtdfdohajjgjbdaaCodesDL
import Derived.Test.YtdfdohajjgjbdaaMem7
import Derived.Test.YtdfdohajjgjbdaaDelQ
import Derived.Test.YtdfdohajjgjbdaaRowI
import Derived.Test.YtdfdohajjgjbdaaDel7
set_option linter.unusedSimpArgs false
namespace Go.Proofs.Ytdfdohajjgjbdaa.deltaSmall
open Go.Vc Go.Del Go.Zig Go.Nib Go.ChangeShapes Go.WideShapes Go.ChangeAt Go.RowKit
set_option maxRecDepth 100000 in
theorem law_c (f s : Int) (v : Value) (r : List UInt64) (w : World) (hf : -9223372036854775808 ≤ f ∧ f ≤ 9223372036854775807) (hs : -9223372036854775808 ≤ s ∧ s ≤ 9223372036854775807) (h : Sl w v (r.map u64v)) :
    FnC Try.prog 11 #[.int .i64 f, .int .i64 s, v] w fun v w' => v = .bool true ∧ Later w w' := by
  have hsl := h
  obtain ⟨o, c, rfl, g1, g2, h, g3⟩ := h.openM
  refine enter11 _ _ _ ?_
  unfold B11
  have e4 : f / 2 ^ 2 = f / 4 := rfl
  repeat' (first | (simp (disch := omega) only [push_cast, ↓reduceIte, Nat.reduceEqDiff, Int.reduceToNat, Nat.reducePow, Int.reducePow, Int.reduceNeg, Nat.reduceMul, Int.reduceMul, Int.reduceAdd, Int.reduceSub, Nat.reduceAdd, Nat.reduceSub, Nat.reduceLeDiff, Int.reduceLT, Int.reduceLE, Int.reduceEq, Int.reduceMod, Int.reduceDiv, reduceCtorEq, not_true_eq_false, not_false_eq_true, e4]) | refine vIfE_of (fun _ => ?_) (fun _ => ?_) | refine vIfD_of (fun _ => ?_) (fun _ => ?_) | refine vIfQ_of (fun _ => ?_) (fun _ => ?_) | refine vIfV_of (fun _ => ?_) (fun _ => ?_) | refine And.intro (by omega) ?_ | refine drawn_q ?_ | fail)
  have hu : -4611686018427387904 ≤ f / 4 ∧ f / 4 ≤ 4611686018427387904 := by omega
  generalize f / 4 = u at *
  refine vc_loop W11_0 (fun p : Nat × Value × Value => [(7, p.2.1), (8, p.2.2), (9, .int .i64 (atN f s p.1)), (10, .int .i64 (upN u r p.1)), (11, .int .i64 (p.1 : Int))])
    (fun p w' => p.1 ≤ r.length ∧ p.1 ≤ 300 ∧ Later w w' ∧ OwnI w' w.heap.size 3 p.2.1 (linN f s p.1) ∧ OwnI w' w.heap.size 3 p.2.2 (upL u r p.1) ∧ Apt p.2.1 p.2.2) (fun p => 300 - p.1) (0, .slice none 0 0, .slice none 0 0) (by decide) ?_ ?_ ?_
  · simp (disch := omega) only [push_cast, ↓reduceIte, Nat.reduceEqDiff, Int.reduceToNat, Nat.reducePow, Int.reducePow, Int.reduceNeg, Nat.reduceMul, Int.reduceMul, Int.reduceAdd, Int.reduceSub, Nat.reduceAdd, Nat.reduceSub, Nat.reduceLeDiff, Int.reduceLT, Int.reduceLE, Int.reduceEq, Int.reduceMod, Int.reduceDiv, reduceCtorEq, not_true_eq_false, not_false_eq_true]
    exact ⟨rfl, rfl⟩
  · exact ⟨by omega, by omega, Later.refl _, own_nil _ _ _ _, own_nil _ _ _ _, Apt.nil _⟩
  rintro ⟨i, v1, v2⟩ uu w1 ⟨hi, hi3, hl1, ho1, ho2, hap⟩
  dsimp only at hi hi3 ho1 ho2 hap
  have hos1 := ho1.sl
  have hos2 := ho2.sl
  obtain ⟨o1, c1, rfl⟩ := ho1.slice
  obtain ⟨o2, c2, rfl⟩ := ho2.slice
  have hat := atN_in s hf i
  have hup := upN_in u r i
  have l1 := linN_len f s i
  have l2 := upL_len u r i
  by_cases hlt : i < r.length ∧ i < 300
  · obtain ⟨hlt, h300⟩ := hlt
    unfold OwnI at ho1 ho2
    rw [l1] at ho1 hap ⊢
    rw [l2] at ho2 hap ⊢
    have hb31 := b31_in r[i]
    have hub : upN u r (i + 1) = upN u r i + b31 r[i] := by
      show upN u r i + b31 (r.getD i 0) = _
      rw [List.getD_eq_getElem?_getD, List.getElem?_eq_getElem hlt]; rfl
    have hup1 := upN_in u r (i + 1)
    have hand : bitI .and .u64 (r[i].toNat : Int) 31 = b31 r[i] := bit_u64_and r[i].toNat 31 r[i].toNat_lt
    repeat' (first | (simp (disch := omega) only [push_cast, ↓reduceIte, Nat.reduceEqDiff, Int.reduceToNat, Nat.reducePow, Int.reducePow, Int.reduceNeg, Nat.reduceMul, Int.reduceMul, Int.reduceAdd, Int.reduceSub, Nat.reduceAdd, Nat.reduceSub, Nat.reduceLeDiff, Int.reduceLT, Int.reduceLE, Int.reduceEq, Int.reduceMod, Int.reduceDiv, reduceCtorEq, not_true_eq_false, not_false_eq_true]) | refine vIfE_of (fun _ => ?_) (fun _ => ?_) | refine vIfD_of (fun _ => ?_) (fun _ => ?_) | refine vIfQ_of (fun _ => ?_) (fun _ => ?_) | refine vIfV_of (fun _ => ?_) (fun _ => ?_) | refine And.intro (by omega) ?_ | refine drawn_q ?_ | fail)
    refine vAppend_at (n := i) (m := 1) Try.underlying35 ti3 rfl (by decide) (own_alloc ho1 _) (Sl.one w1 _ _) (by simp; rfl) (by unfold maxLen; omega) (by omega) (by have := hl1.size; simp; omega) ?_
    intro v1' w2 h1 hg1 hb1
    have hl2 := (hl1.alloc _).appended (own_alloc ho1 _) (Nat.le_refl _) hg1
    have h2 := own_apt (own_alloc ho2 _) hg1 hap
    have hap2 := hap.next (own_alloc ho2 _) hb1
    have hs1 : OwnI w2 w.heap.size 3 v1' (linN f s i ++ [atN f s i]) := by unfold OwnI; rw [List.length_append, List.map_append, l1]; exact h1
    rw [← linN_succ] at hs1
    obtain ⟨o1', c1', rfl⟩ := hs1.slice
    rw [linN_len] at hap2 h1 ⊢
    have hstep : IntKind.i64.wrap (atN f s i + s) = atN f s (i + 1) := wrap_wr _
    repeat' (first | (simp (disch := omega) only [push_cast, ↓reduceIte, Nat.reduceEqDiff, Int.reduceToNat, Nat.reducePow, Int.reducePow, Int.reduceNeg, Nat.reduceMul, Int.reduceMul, Int.reduceAdd, Int.reduceSub, Nat.reduceAdd, Nat.reduceSub, Nat.reduceLeDiff, Int.reduceLT, Int.reduceLE, Int.reduceEq, Int.reduceMod, Int.reduceDiv, reduceCtorEq, not_true_eq_false, not_false_eq_true, hstep]) | refine vIfE_of (fun _ => ?_) (fun _ => ?_) | refine vIfD_of (fun _ => ?_) (fun _ => ?_) | refine vIfQ_of (fun _ => ?_) (fun _ => ?_) | refine vIfV_of (fun _ => ?_) (fun _ => ?_) | refine And.intro (by omega) ?_ | refine drawn_q ?_ | fail)
    refine vAppend_at (n := i) (m := 1) Try.underlying35 ti3 rfl (by decide) (own_alloc h2 _) (Sl.one w2 _ _) (by simp; rfl) (by unfold maxLen; omega) (by omega) (by have := hl2.size; simp; omega) ?_
    intro v2' w3 h3 hg2 hb2
    have hl3 := (hl2.alloc _).appended (own_alloc h2 _) (Nat.le_refl _) hg2
    have h1' := own_apt (own_alloc h1 _) hg2 hap2.symm
    have hap3 := (hap2.symm.next (own_alloc h1 _) hb2).symm
    have hs3 : OwnI w3 w.heap.size 3 v2' (upL u r i ++ [upN u r i]) := by unfold OwnI; rw [List.length_append, List.map_append, l2]; exact h3
    rw [← upL_succ] at hs3
    have hs1' : OwnI w3 w.heap.size 3 (.slice o1' (i + 1) c1') (linN f s i ++ [atN f s i]) := by unfold OwnI; rw [List.length_append, List.map_append, l1]; exact h1'
    rw [← linN_succ] at hs1'
    obtain ⟨a, rfl⟩ := h.some (show 0 < r.length by omega)
    have cr := (h.later hl3).at64 hlt
    repeat' (first | (simp (disch := omega) only [push_cast, ↓reduceIte, Nat.reduceEqDiff, Int.reduceToNat, Nat.reducePow, Int.reducePow, Int.reduceNeg, Nat.reduceMul, Int.reduceMul, Int.reduceAdd, Int.reduceSub, Nat.reduceAdd, Nat.reduceSub, Nat.reduceLeDiff, Int.reduceLT, Int.reduceLE, Int.reduceEq, Int.reduceMod, Int.reduceDiv, reduceCtorEq, not_true_eq_false, not_false_eq_true, cr, hand]) | refine vIfE_of (fun _ => ?_) (fun _ => ?_) | refine vIfD_of (fun _ => ?_) (fun _ => ?_) | refine vIfQ_of (fun _ => ?_) (fun _ => ?_) | refine vIfV_of (fun _ => ?_) (fun _ => ?_) | refine And.intro (by omega) ?_ | refine drawn_q ?_ | fail)
    refine ⟨rfl, (i + 1, _, v2'), ?_, ⟨by dsimp only; omega, by dsimp only; omega, hl3, hs1', hs3, hap3⟩, by dsimp only; omega⟩
    simp (disch := omega) only [push_cast, ↓reduceIte, Nat.reduceEqDiff, Int.reduceToNat, Nat.reducePow, Int.reducePow, Int.reduceNeg, Nat.reduceMul, Int.reduceMul, Int.reduceAdd, Int.reduceSub, Nat.reduceAdd, Nat.reduceSub, Nat.reduceLeDiff, Int.reduceLT, Int.reduceLE, Int.reduceEq, Int.reduceMod, Int.reduceDiv, reduceCtorEq, not_true_eq_false, not_false_eq_true, hub]
  · have hlin := linN_ok s hf i
    have hupo := upL_ok r hu hi3
    have hw1 := linN_wid hf hs i
    have hw2 := upL_wid r hu hi3
    have hE : ∀ l : List Int, l.length ≤ 300 → encE l = 0 ∧ encL l = enc l := by
      intro l hl
      have : encE l = 0 := by unfold encE; rw [if_neg (by omega)]
      exact ⟨this, by unfold encL; rw [if_pos this]⟩
    have hE1 := hE _ (by rw [l1]; exact hi3)
    have hE2 := hE _ (by rw [l2]; exact hi3)
    have hL1 := enc_le hlin (by omega) hw1
    have hL2 := enc_le hupo (by omega) hw2
    rw [l1] at hL1
    rw [l2] at hL2
    rw [l1] at hos1 ⊢
    rw [l2] at hos2 ⊢
    have body : True := trivial
    by_cases hir : i < r.length
    · repeat' (first | (simp (disch := omega) only [push_cast, ↓reduceIte, Nat.reduceEqDiff, Int.reduceToNat, Nat.reducePow, Int.reducePow, Int.reduceNeg, Nat.reduceMul, Int.reduceMul, Int.reduceAdd, Int.reduceSub, Nat.reduceAdd, Nat.reduceSub, Nat.reduceLeDiff, Int.reduceLT, Int.reduceLE, Int.reduceEq, Int.reduceMod, Int.reduceDiv, reduceCtorEq, not_true_eq_false, not_false_eq_true]) | refine vIfE_of (fun _ => ?_) (fun _ => ?_) | refine vIfD_of (fun _ => ?_) (fun _ => ?_) | refine vIfQ_of (fun _ => ?_) (fun _ => ?_) | refine vIfV_of (fun _ => ?_) (fun _ => ?_) | refine And.intro (by omega) ?_ | refine drawn_q ?_ | fail)
      refine (encode_c _ _ w1 hos1 hlin).mono ?_
      rintro _ w2 ⟨⟨x, rfl, hx⟩, hl2⟩
      rw [hE1.1]
      rw [hE1.2] at hx
      obtain ⟨ox, cx, hvx⟩ := hx.slice
      subst hvx
      repeat' (first | (simp (disch := omega) only [push_cast, ↓reduceIte, Nat.reduceEqDiff, Int.reduceToNat, Nat.reducePow, Int.reducePow, Int.reduceNeg, Nat.reduceMul, Int.reduceMul, Int.reduceAdd, Int.reduceSub, Nat.reduceAdd, Nat.reduceSub, Nat.reduceLeDiff, Int.reduceLT, Int.reduceLE, Int.reduceEq, Int.reduceMod, Int.reduceDiv, reduceCtorEq, not_true_eq_false, not_false_eq_true]) | refine vIfE_of (fun _ => ?_) (fun _ => ?_) | refine vIfD_of (fun _ => ?_) (fun _ => ?_) | refine vIfQ_of (fun _ => ?_) (fun _ => ?_) | refine vIfV_of (fun _ => ?_) (fun _ => ?_) | refine And.intro (by omega) ?_ | refine drawn_q ?_ | fail)
      refine (encode_c _ _ w2 (hos2.later hl2) hupo).mono ?_
      rintro _ w3 ⟨⟨y, rfl, hy⟩, hl3⟩
      rw [hE2.1]
      rw [hE2.2] at hy
      obtain ⟨oy, cy, hvy⟩ := hy.slice
      subst hvy
      repeat' (first | (simp (disch := omega) only [push_cast, ↓reduceIte, Nat.reduceEqDiff, Int.reduceToNat, Nat.reducePow, Int.reducePow, Int.reduceNeg, Nat.reduceMul, Int.reduceMul, Int.reduceAdd, Int.reduceSub, Nat.reduceAdd, Nat.reduceSub, Nat.reduceLeDiff, Int.reduceLT, Int.reduceLE, Int.reduceEq, Int.reduceMod, Int.reduceDiv, reduceCtorEq, not_true_eq_false, not_false_eq_true]) | refine vIfE_of (fun _ => ?_) (fun _ => ?_) | refine vIfD_of (fun _ => ?_) (fun _ => ?_) | refine vIfQ_of (fun _ => ?_) (fun _ => ?_) | refine vIfV_of (fun _ => ?_) (fun _ => ?_) | refine And.intro (by omega) ?_ | refine drawn_q ?_ | fail)
      refine (dalive_c w3).mono ?_
      rintro _ w4 ⟨rfl, hl4⟩
      repeat' (first | (simp (disch := omega) only [push_cast, ↓reduceIte, Nat.reduceEqDiff, Int.reduceToNat, Nat.reducePow, Int.reducePow, Int.reduceNeg, Nat.reduceMul, Int.reduceMul, Int.reduceAdd, Int.reduceSub, Nat.reduceAdd, Nat.reduceSub, Nat.reduceLeDiff, Int.reduceLT, Int.reduceLE, Int.reduceEq, Int.reduceMod, Int.reduceDiv, reduceCtorEq, not_true_eq_false, not_false_eq_true]) | refine vIfE_of (fun _ => ?_) (fun _ => ?_) | refine vIfD_of (fun _ => ?_) (fun _ => ?_) | refine vIfQ_of (fun _ => ?_) (fun _ => ?_) | refine vIfV_of (fun _ => ?_) (fun _ => ?_) | refine And.intro (by omega) ?_ | refine drawn_q ?_ | fail)
      exact ⟨congrArg Value.bool (decide_eq_true (by omega)), ((hl1.trans hl2).trans hl3).trans hl4⟩
    · repeat' (first | (simp (disch := omega) only [push_cast, ↓reduceIte, Nat.reduceEqDiff, Int.reduceToNat, Nat.reducePow, Int.reducePow, Int.reduceNeg, Nat.reduceMul, Int.reduceMul, Int.reduceAdd, Int.reduceSub, Nat.reduceAdd, Nat.reduceSub, Nat.reduceLeDiff, Int.reduceLT, Int.reduceLE, Int.reduceEq, Int.reduceMod, Int.reduceDiv, reduceCtorEq, not_true_eq_false, not_false_eq_true]) | refine vIfE_of (fun _ => ?_) (fun _ => ?_) | refine vIfD_of (fun _ => ?_) (fun _ => ?_) | refine vIfQ_of (fun _ => ?_) (fun _ => ?_) | refine vIfV_of (fun _ => ?_) (fun _ => ?_) | refine And.intro (by omega) ?_ | refine drawn_q ?_ | fail)
      refine (encode_c _ _ w1 hos1 hlin).mono ?_
      rintro _ w2 ⟨⟨x, rfl, hx⟩, hl2⟩
      rw [hE1.1]
      rw [hE1.2] at hx
      obtain ⟨ox, cx, hvx⟩ := hx.slice
      subst hvx
      repeat' (first | (simp (disch := omega) only [push_cast, ↓reduceIte, Nat.reduceEqDiff, Int.reduceToNat, Nat.reducePow, Int.reducePow, Int.reduceNeg, Nat.reduceMul, Int.reduceMul, Int.reduceAdd, Int.reduceSub, Nat.reduceAdd, Nat.reduceSub, Nat.reduceLeDiff, Int.reduceLT, Int.reduceLE, Int.reduceEq, Int.reduceMod, Int.reduceDiv, reduceCtorEq, not_true_eq_false, not_false_eq_true]) | refine vIfE_of (fun _ => ?_) (fun _ => ?_) | refine vIfD_of (fun _ => ?_) (fun _ => ?_) | refine vIfQ_of (fun _ => ?_) (fun _ => ?_) | refine vIfV_of (fun _ => ?_) (fun _ => ?_) | refine And.intro (by omega) ?_ | refine drawn_q ?_ | fail)
      refine (encode_c _ _ w2 (hos2.later hl2) hupo).mono ?_
      rintro _ w3 ⟨⟨y, rfl, hy⟩, hl3⟩
      rw [hE2.1]
      rw [hE2.2] at hy
      obtain ⟨oy, cy, hvy⟩ := hy.slice
      subst hvy
      repeat' (first | (simp (disch := omega) only [push_cast, ↓reduceIte, Nat.reduceEqDiff, Int.reduceToNat, Nat.reducePow, Int.reducePow, Int.reduceNeg, Nat.reduceMul, Int.reduceMul, Int.reduceAdd, Int.reduceSub, Nat.reduceAdd, Nat.reduceSub, Nat.reduceLeDiff, Int.reduceLT, Int.reduceLE, Int.reduceEq, Int.reduceMod, Int.reduceDiv, reduceCtorEq, not_true_eq_false, not_false_eq_true]) | refine vIfE_of (fun _ => ?_) (fun _ => ?_) | refine vIfD_of (fun _ => ?_) (fun _ => ?_) | refine vIfQ_of (fun _ => ?_) (fun _ => ?_) | refine vIfV_of (fun _ => ?_) (fun _ => ?_) | refine And.intro (by omega) ?_ | refine drawn_q ?_ | fail)
      refine (dalive_c w3).mono ?_
      rintro _ w4 ⟨rfl, hl4⟩
      repeat' (first | (simp (disch := omega) only [push_cast, ↓reduceIte, Nat.reduceEqDiff, Int.reduceToNat, Nat.reducePow, Int.reducePow, Int.reduceNeg, Nat.reduceMul, Int.reduceMul, Int.reduceAdd, Int.reduceSub, Nat.reduceAdd, Nat.reduceSub, Nat.reduceLeDiff, Int.reduceLT, Int.reduceLE, Int.reduceEq, Int.reduceMod, Int.reduceDiv, reduceCtorEq, not_true_eq_false, not_false_eq_true]) | refine vIfE_of (fun _ => ?_) (fun _ => ?_) | refine vIfD_of (fun _ => ?_) (fun _ => ?_) | refine vIfQ_of (fun _ => ?_) (fun _ => ?_) | refine vIfV_of (fun _ => ?_) (fun _ => ?_) | refine And.intro (by omega) ?_ | refine drawn_q ?_ | fail)
      exact ⟨congrArg Value.bool (decide_eq_true (by omega)), ((hl1.trans hl2).trans hl3).trans hl4⟩
theorem own : ownKnob Try.prog.godebug = none := by kernel_rfl
theorem lifted (os : Os) (started : os.Started) (H : Type) (enc : TypeId × Value → H) :
    ReturnsInHanded {} Try.checked os 11 .any (Rows.deltaSmallSpec.pre6 enc Try.prog Try.f11 Rows.deltaSmallRow.domain false) (Rows.deltaSmallSpec.post enc Try.prog Try.f11 false true false false) := by
  refine lifted_later (C := Try.checked) own started (by kernel_rfl) Try.func11 hb11
    (ChangeSpec.witness6 (enc := enc) (C := Try.checked) false ⟨#[], #[.int .i64 0, .int .i64 0, .slice none 0 0], []⟩ 11 (by kernel_rfl) (by kernel_rfl) (by kernel_rfl) (by kernel_rfl))
    (by kernel_rfl) (list_all (by kernel_rfl)) (by kernel_rfl) Try.underlying4 rfl ?_ ?_
  · intro ds h
    have h : ds.length = 3 := h
    match ds, h with
    | [_, _, _], _ => rfl
  · intro W base args ds p hval0 hA0
    have hval : ∀ (j : Nat) t v, Try.f11.params[j]? = some t → args[j]? = some v → Value.okWide Try.prog W .any base t v := hval0
    have hA : DataW.TrodAll enc Try.prog W 0 (fun _ => true) true Try.f11.params.toList args.toList ds p := hA0
    rw [Try.params11] at hA hval
    obtain ⟨v0, vs0, d0, ds0, p0, q0, hargs, rfl, rfl, h0, r0⟩ := trodAll_cons hA
    obtain ⟨v1, vs1, d1, ds1, p1, q1, rfl, rfl, rfl, h1, r1⟩ := trodAll_cons r0
    obtain ⟨v2, vs2, d2, ds2, p2, q2, rfl, rfl, rfl, h2, r2⟩ := trodAll_cons r1
    obtain ⟨rfl, rfl, rfl⟩ := trodAll_nil r2
    obtain rfl : args = #[v0, v1, v2] := by cases args; simp_all
    obtain ⟨a0, rfl, rfl, rfl, w0⟩ := open_int Try.underlying3 (hval 0 3 v0 rfl rfl) h0
    obtain ⟨a1, rfl, rfl, rfl, w1⟩ := open_int Try.underlying3 (hval 1 3 v1 rfl rfl) h1
    obtain ⟨a2, w2⟩ := open_u64s Try.underlying45 Try.underlying47 (by kernel_rfl) (hval 2 45 v2 rfl rfl) h2
    exact law_c a0 a1 v2 a2 W (i64_of_wf w0) (i64_of_wf w1) w2
theorem over : Rows.deltaSmallRow.holds Try.pinned (OpenSpec.ofChange Rows.deltaSmallSpec) :=
  OpenClaim.holds_of_wide 11 Try.f11 rfl rfl rfl rfl rfl rfl rfl ⟨rfl, rfl, rfl, rfl, rfl⟩ rfl rfl rfl rfl rfl (by kernel_rfl) Try.func11 (by kernel_rfl)
    (of_decide_eq_true (by kernel_rfl)) (by unfold Func.isWrapper; first | (rw [if_pos (by decide +kernel)]; kernel_rfl) | (rw [if_neg (by decide +kernel)]; exact ⟨rfl, rfl⟩))
    (fun os started H enc _ => lifted os started H enc)
/-- The statement. -/
theorem proved : Rows.DeltaSmallSaid :=
  over
end Go.Proofs.Ytdfdohajjgjbdaa.deltaSmall
