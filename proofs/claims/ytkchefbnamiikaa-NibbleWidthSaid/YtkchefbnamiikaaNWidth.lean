/- NibbleWidth holds for every input: numbers are packed in a width just if that is not below theirs and at most 64; one more bit than the greatest has does not change what they are. -/
import Derived.Test.YtkchefbnamiikaaRows
import Derived.Test.YtkchefbnamiikaaNib6
import Derived.Test.YtkchefbnamiikaaCodesNL
import Derived.Test.YtkchefbnamiikaaRow
set_option linter.unusedSimpArgs false
namespace Go.Proofs.Ytkchefbnamiikaa.nibbleWidth
open Go.Vc Go.Nib Go.ChangeShapes Go.WideShapes Go.ChangeAt Go.RowKit
theorem high_fdiv (l : List UInt64) (h : 0 < wid l) : ((high l : Nat) : Int).fdiv (2 ^ (wid l - 1)) = 1 := by
  have e : (2 : Int) ^ (wid l - 1) = ((2 ^ (wid l - 1) : Nat) : Int) := by rw [Int.natCast_pow]; rfl
  rw [e, ← Int.ofNat_fdiv, high_top l h]; rfl
theorem pkE_cases (l : List UInt64) (width : Int) (h : l.length ≤ 300) : (pkE l.length (wid l) width = 0 ∧ (wid l : Int) ≤ width ∧ 0 ≤ width ∧ width ≤ 64) ∨ (¬ pkE l.length (wid l) width = 0 ∧ ¬ ((wid l : Int) ≤ width ∧ 0 ≤ width ∧ width ≤ 64)) := by
  unfold pkE
  by_cases hb : 65536 < l.length ∨ width < 0 ∨ 64 < width
  · rw [if_pos hb]; right; omega
  · rw [if_neg hb]
    by_cases hb2 : width < wid l
    · rw [if_pos hb2]; right; omega
    · rw [if_neg hb2]; left; omega
set_option maxRecDepth 100000 in
theorem law_c (v : Value) (l : List UInt64) (width : Int) (w : World) (h : Sl w v (l.map u64v)) (h1 : -9223372036854775808 ≤ width ∧ width ≤ 9223372036854775807) : FnC Try.prog 4 #[v, .int .i64 width] w fun v w' => v = .bool true ∧ Later w w' := by
  have hs := h
  obtain ⟨o, c, rfl, g1, g2, h, h3⟩ := h.openM
  refine enter4 _ _ ?_
  unfold B4
  repeat' (first | (simp (disch := omega) only [push_cast, ↓reduceIte, Nat.reduceEqDiff, Int.reduceToNat, Nat.reducePow, Int.reducePow, Int.reduceNeg, Nat.reduceMul, Int.reduceMul, Int.reduceAdd, Int.reduceSub, Nat.reduceAdd, Nat.reduceSub, Nat.reduceLeDiff, Int.reduceLT, Int.reduceLE, Int.reduceEq, Int.reduceMod, Int.reduceDiv, reduceCtorEq, not_true_eq_false, not_false_eq_true]) | refine vIfE_of (fun _ => ?_) (fun _ => ?_) | refine vIfD_of (fun _ => ?_) (fun _ => ?_) | refine vIfQ_of (fun _ => ?_) (fun _ => ?_) | refine vIfV_of (fun _ => ?_) (fun _ => ?_) | refine And.intro (by omega) ?_ | refine drawn_q ?_ | fail)
  · refine (nalive_c w).mono ?_
    rintro _ w1 ⟨rfl, hl1⟩
    repeat' (first | (simp (disch := omega) only [push_cast, ↓reduceIte, Nat.reduceEqDiff, Int.reduceToNat, Nat.reducePow, Int.reducePow, Int.reduceNeg, Nat.reduceMul, Int.reduceMul, Int.reduceAdd, Int.reduceSub, Nat.reduceAdd, Nat.reduceSub, Nat.reduceLeDiff, Int.reduceLT, Int.reduceLE, Int.reduceEq, Int.reduceMod, Int.reduceDiv, reduceCtorEq, not_true_eq_false, not_false_eq_true]) | refine vIfE_of (fun _ => ?_) (fun _ => ?_) | refine vIfD_of (fun _ => ?_) (fun _ => ?_) | refine vIfQ_of (fun _ => ?_) (fun _ => ?_) | refine vIfV_of (fun _ => ?_) (fun _ => ?_) | refine And.intro (by omega) ?_ | refine drawn_q ?_ | fail)
    exact hl1
  refine (width_c _ l w hs).mono ?_
  rintro _ w4 ⟨rfl, hw⟩
  obtain rfl := hw.symm
  have h64 := wid_64 l
  repeat' (first | (simp (disch := omega) only [push_cast, ↓reduceIte, Nat.reduceEqDiff, Int.reduceToNat, Nat.reducePow, Int.reducePow, Int.reduceNeg, Nat.reduceMul, Int.reduceMul, Int.reduceAdd, Int.reduceSub, Nat.reduceAdd, Nat.reduceSub, Nat.reduceLeDiff, Int.reduceLT, Int.reduceLE, Int.reduceEq, Int.reduceMod, Int.reduceDiv, reduceCtorEq, not_true_eq_false, not_false_eq_true]) | refine vIfE_of (fun _ => ?_) (fun _ => ?_) | refine vIfD_of (fun _ => ?_) (fun _ => ?_) | refine vIfQ_of (fun _ => ?_) (fun _ => ?_) | refine vIfV_of (fun _ => ?_) (fun _ => ?_) | refine And.intro (by omega) ?_ | refine drawn_q ?_ | fail)
  refine (pack_c _ l width w hs (by omega) h1).mono ?_
  rintro _ w1 ⟨⟨x, rfl, hx⟩, hl1⟩
  have hE := pkE_cases l width (by omega)
  generalize pkE l.length (wid l) width = E at *
  have hfin : ∀ w2, Later w w2 → FnC Try.prog 13 #[] w2 fun v w' => v = .bool true ∧ Later w w' := fun w2 hl2 => (nalive_c w2).mono fun v w' h => ⟨h.1, hl2.trans h.2⟩
  by_cases hw0 : 0 < wid l
  · have hll : 0 < l.length := by
      cases l with
      | nil => simp [wid] at hw0
      | cons x l => simp
    repeat' (first | (simp (disch := omega) only [push_cast, ↓reduceIte, Nat.reduceEqDiff, Int.reduceToNat, Nat.reducePow, Int.reducePow, Int.reduceNeg, Nat.reduceMul, Int.reduceMul, Int.reduceAdd, Int.reduceSub, Nat.reduceAdd, Nat.reduceSub, Nat.reduceLeDiff, Int.reduceLT, Int.reduceLE, Int.reduceEq, Int.reduceMod, Int.reduceDiv, reduceCtorEq, not_true_eq_false, not_false_eq_true]) | refine vIfE_of (fun _ => ?_) (fun _ => ?_) | refine vIfD_of (fun _ => ?_) (fun _ => ?_) | refine vIfQ_of (fun _ => ?_) (fun _ => ?_) | refine vIfV_of (fun _ => ?_) (fun _ => ?_) | refine And.intro (by omega) ?_ | refine drawn_q ?_ | fail)
    refine vc_loop W4_0 (fun i : Nat => [(9, .int .u64 (high (l.take i))), (10, .int .i64 (i : Int))])
      (fun i w' => i ≤ l.length ∧ w' = w1) (fun i => l.length - i) 0 (by decide) ?_ ?_ ?_
    · simp (disch := omega) only [push_cast, ↓reduceIte, Nat.reduceEqDiff, Int.reduceToNat, Nat.reducePow, Int.reducePow, Int.reduceNeg, Nat.reduceMul, Int.reduceMul, Int.reduceAdd, Int.reduceSub, Nat.reduceAdd, Nat.reduceSub, Nat.reduceLeDiff, Int.reduceLT, Int.reduceLE, Int.reduceEq, Int.reduceMod, Int.reduceDiv, reduceCtorEq, not_true_eq_false, not_false_eq_true]
      rfl
    · exact ⟨by omega, rfl⟩
    rintro i uu w0 ⟨hi, hw⟩
    obtain rfl := hw.symm
    by_cases hi' : i < l.length
    · obtain ⟨a, rfl⟩ := h.some hi'
      have hc := (h.later hl1).at64 hi'
      have ht := take_snoc l i hi'
      have hh := high_snoc (l.take i) l[i]
      have hmx : ((max (high (l.take i)) l[i].toNat : Nat) : Int) = max (high (l.take i) : Int) (l[i].toNat : Int) := by omega
      repeat' (first | (simp (disch := omega) only [push_cast, ↓reduceIte, Nat.reduceEqDiff, Int.reduceToNat, Nat.reducePow, Int.reducePow, Int.reduceNeg, Nat.reduceMul, Int.reduceMul, Int.reduceAdd, Int.reduceSub, Nat.reduceAdd, Nat.reduceSub, Nat.reduceLeDiff, Int.reduceLT, Int.reduceLE, Int.reduceEq, Int.reduceMod, Int.reduceDiv, reduceCtorEq, not_true_eq_false, not_false_eq_true, hc]) | refine vIfE_of (fun _ => ?_) (fun _ => ?_) | refine vIfD_of (fun _ => ?_) (fun _ => ?_) | refine vIfQ_of (fun _ => ?_) (fun _ => ?_) | refine vIfV_of (fun _ => ?_) (fun _ => ?_) | refine And.intro (by omega) ?_ | refine drawn_q ?_ | fail)
      refine ⟨rfl, i + 1, by simp (disch := omega) only [push_cast, ↓reduceIte, Nat.reduceEqDiff, Int.reduceToNat, Nat.reducePow, Int.reducePow, Int.reduceNeg, Nat.reduceMul, Int.reduceMul, Int.reduceAdd, Int.reduceSub, Nat.reduceAdd, Nat.reduceSub, Nat.reduceLeDiff, Int.reduceLT, Int.reduceLE, Int.reduceEq, Int.reduceMod, Int.reduceDiv, reduceCtorEq, not_true_eq_false, not_false_eq_true, ht, hh, hmx], ⟨by omega, rfl⟩, by simp; omega⟩
    · have e : i = l.length := by omega
      subst e
      have e1 : ((wid l : Int) - 1).toNat = wid l - 1 := by omega
      have hfd := high_fdiv l hw0
      repeat' (first | (simp (disch := omega) only [push_cast, ↓reduceIte, Nat.reduceEqDiff, Int.reduceToNat, Nat.reducePow, Int.reducePow, Int.reduceNeg, Nat.reduceMul, Int.reduceMul, Int.reduceAdd, Int.reduceSub, Nat.reduceAdd, Nat.reduceSub, Nat.reduceLeDiff, Int.reduceLT, Int.reduceLE, Int.reduceEq, Int.reduceMod, Int.reduceDiv, reduceCtorEq, not_true_eq_false, not_false_eq_true, e1, hfd, List.take_length]) | refine vIfE_of (fun _ => ?_) (fun _ => ?_) | refine vIfD_of (fun _ => ?_) (fun _ => ?_) | refine vIfQ_of (fun _ => ?_) (fun _ => ?_) | refine vIfV_of (fun _ => ?_) (fun _ => ?_) | refine And.intro (by omega) ?_ | refine drawn_q ?_ | fail)
      refine (hfin _ hl1).mono ?_
      rintro _ w2 ⟨rfl, hl2⟩
      clear hfin
      by_cases q1 : (wid l : Int) ≤ width <;> by_cases q2 : 0 ≤ width <;> by_cases q3 : width ≤ 64 <;> by_cases q4 : E = 0
      all_goals first
        | (exfalso; omega)
        | (repeat' (first | (simp (disch := omega) only [push_cast, ↓reduceIte, Nat.reduceEqDiff, Int.reduceToNat, Nat.reducePow, Int.reducePow, Int.reduceNeg, Nat.reduceMul, Int.reduceMul, Int.reduceAdd, Int.reduceSub, Nat.reduceAdd, Nat.reduceSub, Nat.reduceLeDiff, Int.reduceLT, Int.reduceLE, Int.reduceEq, Int.reduceMod, Int.reduceDiv, reduceCtorEq, not_true_eq_false, not_false_eq_true, q1, q2, q3, q4, decide_true, decide_false]) | refine vIfE_of (fun _ => ?_) (fun _ => ?_) | refine vIfD_of (fun _ => ?_) (fun _ => ?_) | refine vIfQ_of (fun _ => ?_) (fun _ => ?_) | refine vIfV_of (fun _ => ?_) (fun _ => ?_) | refine And.intro (by omega) ?_ | refine drawn_q ?_ | fail)
           all_goals first
             | exact hl2
             | (exfalso; omega)
             | (refine ⟨?_, hl2⟩; simp [hw0])
             | simp_all)
  · repeat' (first | (simp (disch := omega) only [push_cast, ↓reduceIte, Nat.reduceEqDiff, Int.reduceToNat, Nat.reducePow, Int.reducePow, Int.reduceNeg, Nat.reduceMul, Int.reduceMul, Int.reduceAdd, Int.reduceSub, Nat.reduceAdd, Nat.reduceSub, Nat.reduceLeDiff, Int.reduceLT, Int.reduceLE, Int.reduceEq, Int.reduceMod, Int.reduceDiv, reduceCtorEq, not_true_eq_false, not_false_eq_true]) | refine vIfE_of (fun _ => ?_) (fun _ => ?_) | refine vIfD_of (fun _ => ?_) (fun _ => ?_) | refine vIfQ_of (fun _ => ?_) (fun _ => ?_) | refine vIfV_of (fun _ => ?_) (fun _ => ?_) | refine And.intro (by omega) ?_ | refine drawn_q ?_ | fail)
    all_goals
      refine (hfin _ hl1).mono ?_
      rintro _ w2 ⟨rfl, hl2⟩
      clear hfin
      by_cases q1 : (wid l : Int) ≤ width <;> by_cases q2 : 0 ≤ width <;> by_cases q3 : width ≤ 64 <;> by_cases q4 : E = 0
      all_goals first
        | (exfalso; omega)
        | (repeat' (first | (simp (disch := omega) only [push_cast, ↓reduceIte, Nat.reduceEqDiff, Int.reduceToNat, Nat.reducePow, Int.reducePow, Int.reduceNeg, Nat.reduceMul, Int.reduceMul, Int.reduceAdd, Int.reduceSub, Nat.reduceAdd, Nat.reduceSub, Nat.reduceLeDiff, Int.reduceLT, Int.reduceLE, Int.reduceEq, Int.reduceMod, Int.reduceDiv, reduceCtorEq, not_true_eq_false, not_false_eq_true, q1, q2, q3, q4, decide_true, decide_false]) | refine vIfE_of (fun _ => ?_) (fun _ => ?_) | refine vIfD_of (fun _ => ?_) (fun _ => ?_) | refine vIfQ_of (fun _ => ?_) (fun _ => ?_) | refine vIfV_of (fun _ => ?_) (fun _ => ?_) | refine And.intro (by omega) ?_ | refine drawn_q ?_ | fail)
           all_goals first
             | exact hl2
             | (exfalso; omega)
             | (refine ⟨?_, hl2⟩; simp [hw0])
             | simp_all)
theorem own : ownKnob Try.prog.godebug = none := by kernel_rfl
theorem lifted (os : Os) (started : os.Started) (H : Type) (enc : TypeId × Value → H) :
    ReturnsInHanded {} Try.checked os 4 .any (Rows.nibbleWidthSpec.pre6 enc Try.prog Try.f4 Rows.nibbleWidthRow.domain false) (Rows.nibbleWidthSpec.post enc Try.prog Try.f4 false true false false) := by
  refine lifted_later (C := Try.checked) own started (by kernel_rfl) Try.func4 hb4
    (ChangeSpec.witness6 (enc := enc) (C := Try.checked) false ⟨#[], #[.slice none 0 0, .int .i64 0], []⟩ 4 (by kernel_rfl) (by kernel_rfl) (by kernel_rfl) (by kernel_rfl))
    (by kernel_rfl) (list_all (by kernel_rfl)) (by kernel_rfl) Try.underlying4 rfl ?_ ?_
  · intro ds h
    have h : ds.length = 2 := h
    match ds, h with
    | [_, _], _ => rfl
  · intro W base args ds p hval0 hA0
    have hval : ∀ (j : Nat) t v, Try.f4.params[j]? = some t → args[j]? = some v → Value.okWide Try.prog W .any base t v := hval0
    have hA : DataW.TrodAll enc Try.prog W 0 (fun _ => true) true Try.f4.params.toList args.toList ds p := hA0
    rw [Try.params4] at hA hval
    obtain ⟨v0, vs0, d0, ds0, p0, q0, hargs, rfl, rfl, h0, r0⟩ := trodAll_cons hA
    obtain ⟨v1, vs1, d1, ds1, p1, q1, rfl, rfl, rfl, h1, r1⟩ := trodAll_cons r0
    obtain ⟨rfl, rfl, rfl⟩ := trodAll_nil r1
    obtain rfl : args = #[v0, v1] := by cases args; simp_all
    obtain ⟨a0, w0⟩ := open_u64s Try.underlying22 Try.underlying32 (by kernel_rfl) (hval 0 22 v0 rfl rfl) h0
    obtain ⟨a1, rfl, rfl, rfl, w1⟩ := open_int Try.underlying3 (hval 1 3 v1 rfl rfl) h1
    exact law_c v0 a0 a1 W w0 (i64_of_wf w1)
theorem over : Rows.nibbleWidthRow.holds Try.pinned (OpenSpec.ofChange Rows.nibbleWidthSpec) :=
  OpenClaim.holds_of_wide 4 Try.f4 rfl rfl rfl rfl rfl rfl rfl ⟨rfl, rfl, rfl, rfl, rfl⟩ rfl rfl rfl rfl rfl (by kernel_rfl) Try.func4 (by kernel_rfl)
    (of_decide_eq_true (by kernel_rfl)) (by unfold Func.isWrapper; first | (rw [if_pos (by decide +kernel)]; kernel_rfl) | (rw [if_neg (by decide +kernel)]; exact ⟨rfl, rfl⟩))
    (fun os started H enc _ => lifted os started H enc)
/-- The statement. -/
theorem proved : Rows.NibbleWidthSaid :=
  over
end Go.Proofs.Ytkchefbnamiikaa.nibbleWidth
