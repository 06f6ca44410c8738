/- ZigOrder holds for every input: of two numbers from 0 on the greater one has no fewer bytes, and comes behind. -/
import Derived.Test.YtgomibebepmlhaaRows
import Derived.Test.YtgomibebepmlhaaZig8
import Derived.Test.YtgomibebepmlhaaCodesL
import Derived.Test.YtgomibebepmlhaaRow
import Derived.Test.YtgomibebepmlhaaZigP2
set_option linter.unusedSimpArgs false
namespace Go.Proofs.Ytgomibebepmlhaa.zigOrder
open Go.Vc Go.Zig Go.ChangeShapes Go.WideShapes Go.ChangeAt Go.RowKit

theorem extract_take (l : List UInt8) (k : Nat) : (Vc.strOf l).extract 0 k = Vc.strOf (l.take k) := by
  apply ByteArray.ext
  simp [Vc.strOf, ByteArray.data_extract]
theorem zi_extract {n m : Int} (hn : I64 n) (hm : I64 m) (k : Nat) (hk : k = min (zi n).length (zi m).length) : decide ((Vc.strOf (zi n)).extract 0 k = (Vc.strOf (zi m)).extract 0 k) = decide (n = m) := by
  have fn := foldI_u64 hn
  have fm := foldI_u64 hm
  unfold U64 at fn fm
  rw [decide_eq_decide, extract_take, extract_take, strOf_inj, hk]
  constructor
  · intro h
    have := zu_prefix (u := (foldI n).toNat) (v := (foldI m).toNat) (by omega) (by omega) h
    have h2 : foldI n = foldI m := by omega
    have := congrArg unfoldI h2
    rwa [unfold_fold, unfold_fold] at this
  · intro h; subst h; rfl
theorem zi_less {n m : Int} (hn : 0 ≤ n) (h : n < m) : (zi n).length < (zi m).length ∨ ((zi n).length = (zi m).length ∧ Op.bytesLess (zi n) (zi m) = true) := by
  refine zu_less ?_
  unfold foldI
  rw [if_pos hn, if_pos (by omega)]; omega
theorem law_c (n m : Int) (w : World) (hn : I64 n) (hm : I64 m) : FnC Try.prog 11 #[.int .i64 n, .int .i64 m] w fun v w' => v = .bool true ∧ Later w w' := by
  refine enter11 _ _ ?_
  unfold B11
  repeat' (first | (simp (disch := omega) only [push_cast, ↓reduceIte, Nat.reduceEqDiff, Int.reduceToNat, Nat.reducePow, Int.reducePow, Int.reduceNeg, Nat.reduceMul, Int.reduceMul, Int.reduceAdd, Int.reduceSub, Nat.reduceAdd, Nat.reduceSub, Nat.reduceLeDiff, Int.reduceLT, Int.reduceLE, Int.reduceEq, Int.reduceMod, Int.reduceDiv, reduceCtorEq]) | refine vIfE_of (fun _ => ?_) (fun _ => ?_) | refine vIfD_of (fun _ => ?_) (fun _ => ?_) | refine vIfQ_of (fun _ => ?_) (fun _ => ?_) | refine vIfV_of (fun _ => ?_) (fun _ => ?_) | refine And.intro (by omega) ?_ | fail)
  · refine (alive_c w).mono ?_
    rintro _ w1 ⟨rfl, hl1⟩
    repeat' (first | (simp (disch := omega) only [push_cast, ↓reduceIte, Nat.reduceEqDiff, Int.reduceToNat, Nat.reducePow, Int.reducePow, Int.reduceNeg, Nat.reduceMul, Int.reduceMul, Int.reduceAdd, Int.reduceSub, Nat.reduceAdd, Nat.reduceSub, Nat.reduceLeDiff, Int.reduceLT, Int.reduceLE, Int.reduceEq, Int.reduceMod, Int.reduceDiv, reduceCtorEq]) | refine vIfE_of (fun _ => ?_) (fun _ => ?_) | refine vIfD_of (fun _ => ?_) (fun _ => ?_) | refine vIfQ_of (fun _ => ?_) (fun _ => ?_) | refine vIfV_of (fun _ => ?_) (fun _ => ?_) | refine And.intro (by omega) ?_ | fail)
    exact hl1
  · have zn := zi_len hn
    have zm := zi_len hm
    refine (zInt_c (.slice none 0 0) [] n w hn (Sl.nil _) (by simp)).mono ?_
    rintro v1 w1 ⟨ho1, hl1⟩
    obtain ⟨o1, c1, rfl⟩ := (show OwnB w1 _ _ _ _ from by unfold OwnB; simpa using ho1 : OwnB w1 w.heap.size 5 v1 (zi n)).slice
    have s1 : Sl w1 (.slice o1 (zi n).length c1) ((zi n).map u8v) := (show OwnB w1 w.heap.size 5 _ (zi n) by unfold OwnB; simpa using ho1).sl
    repeat' (first | (simp (disch := omega) only [push_cast, ↓reduceIte, Nat.reduceEqDiff, Int.reduceToNat, Nat.reducePow, Int.reducePow, Int.reduceNeg, Nat.reduceMul, Int.reduceMul, Int.reduceAdd, Int.reduceSub, Nat.reduceAdd, Nat.reduceSub, Nat.reduceLeDiff, Int.reduceLT, Int.reduceLE, Int.reduceEq, Int.reduceMod, Int.reduceDiv, reduceCtorEq]) | refine vIfE_of (fun _ => ?_) (fun _ => ?_) | refine vIfD_of (fun _ => ?_) (fun _ => ?_) | refine vIfQ_of (fun _ => ?_) (fun _ => ?_) | refine vIfV_of (fun _ => ?_) (fun _ => ?_) | refine And.intro (by omega) ?_ | fail)
    refine vConv_bytes Try.underlying40 Try.underlying9 Try.underlying5 s1 ?_
    repeat' (first | (simp (disch := omega) only [push_cast, ↓reduceIte, Nat.reduceEqDiff, Int.reduceToNat, Nat.reducePow, Int.reducePow, Int.reduceNeg, Nat.reduceMul, Int.reduceMul, Int.reduceAdd, Int.reduceSub, Nat.reduceAdd, Nat.reduceSub, Nat.reduceLeDiff, Int.reduceLT, Int.reduceLE, Int.reduceEq, Int.reduceMod, Int.reduceDiv, reduceCtorEq]) | refine vIfE_of (fun _ => ?_) (fun _ => ?_) | refine vIfD_of (fun _ => ?_) (fun _ => ?_) | refine vIfQ_of (fun _ => ?_) (fun _ => ?_) | refine vIfV_of (fun _ => ?_) (fun _ => ?_) | refine And.intro (by omega) ?_ | fail)
    refine (zInt_c (.slice none 0 0) [] m w1 hm (Sl.nil _) (by simp)).mono ?_
    rintro v2 w2 ⟨ho2, hl2⟩
    obtain ⟨o2, c2, rfl⟩ := (show OwnB w2 _ _ _ _ from by unfold OwnB; simpa using ho2 : OwnB w2 w1.heap.size 5 v2 (zi m)).slice
    have s2 : Sl w2 (.slice o2 (zi m).length c2) ((zi m).map u8v) := (show OwnB w2 w1.heap.size 5 _ (zi m) by unfold OwnB; simpa using ho2).sl
    repeat' (first | (simp (disch := omega) only [push_cast, ↓reduceIte, Nat.reduceEqDiff, Int.reduceToNat, Nat.reducePow, Int.reducePow, Int.reduceNeg, Nat.reduceMul, Int.reduceMul, Int.reduceAdd, Int.reduceSub, Nat.reduceAdd, Nat.reduceSub, Nat.reduceLeDiff, Int.reduceLT, Int.reduceLE, Int.reduceEq, Int.reduceMod, Int.reduceDiv, reduceCtorEq]) | refine vIfE_of (fun _ => ?_) (fun _ => ?_) | refine vIfD_of (fun _ => ?_) (fun _ => ?_) | refine vIfQ_of (fun _ => ?_) (fun _ => ?_) | refine vIfV_of (fun _ => ?_) (fun _ => ?_) | refine And.intro (by omega) ?_ | fail)
    refine vConv_bytes Try.underlying40 Try.underlying9 Try.underlying5 s2 ?_
    repeat' (first | (simp (disch := omega) only [push_cast, ↓reduceIte, Nat.reduceEqDiff, Int.reduceToNat, Nat.reducePow, Int.reducePow, Int.reduceNeg, Nat.reduceMul, Int.reduceMul, Int.reduceAdd, Int.reduceSub, Nat.reduceAdd, Nat.reduceSub, Nat.reduceLeDiff, Int.reduceLT, Int.reduceLE, Int.reduceEq, Int.reduceMod, Int.reduceDiv, reduceCtorEq, strOf_size]) | refine vIfE_of (fun _ => ?_) (fun _ => ?_) | refine vIfD_of (fun _ => ?_) (fun _ => ?_) | refine vIfQ_of (fun _ => ?_) (fun _ => ?_) | refine vIfV_of (fun _ => ?_) (fun _ => ?_) | refine And.intro (by omega) ?_ | fail)
    refine QFn.of hb29 (v := .bool true) (fun w' _ => (alive_c w').mono fun _ _ h => h) ?_
    have hx := fun k hk => zi_extract hn hm k hk
    have hlt := zi_less (n := n) (m := m)
    repeat' (first | (simp (disch := omega) only [push_cast, ↓reduceIte, Nat.reduceEqDiff, Int.reduceToNat, Nat.reducePow, Int.reducePow, Int.reduceNeg, Nat.reduceMul, Int.reduceMul, Int.reduceAdd, Int.reduceSub, Nat.reduceAdd, Nat.reduceSub, Nat.reduceLeDiff, Int.reduceLT, Int.reduceLE, Int.reduceEq, Int.reduceMod, Int.reduceDiv, reduceCtorEq, strOf_size]) | refine vIfE_of (fun _ => ?_) (fun _ => ?_) | refine vIfD_of (fun _ => ?_) (fun _ => ?_) | refine vIfQ_of (fun _ => ?_) (fun _ => ?_) | refine vIfV_of (fun _ => ?_) (fun _ => ?_) | refine And.intro (by omega) ?_ | fail)
    all_goals intro w' hl'
    all_goals first
      | exact hl1.trans (hl2.trans hl')
      | exact ⟨rfl, hl1.trans (hl2.trans hl')⟩
      | (exfalso; rename_i h; exact h (hx _ (by omega)))
      | (exfalso; rename_i h _; exact h (hx _ (by omega)))
      | (exfalso; rcases hlt (by omega) (by omega) with h | h <;> omega)
      | (refine ⟨?_, hl1.trans (hl2.trans hl')⟩
         rcases hlt (by omega) (by omega) with h | h
         · exfalso; omega
         · have e := h.2
           simp only [Vc.strOf]
           rw [e])
  · refine (alive_c w).mono ?_
    rintro _ w1 ⟨rfl, hl1⟩
    repeat' (first | (simp (disch := omega) only [push_cast, ↓reduceIte, Nat.reduceEqDiff, Int.reduceToNat, Nat.reducePow, Int.reducePow, Int.reduceNeg, Nat.reduceMul, Int.reduceMul, Int.reduceAdd, Int.reduceSub, Nat.reduceAdd, Nat.reduceSub, Nat.reduceLeDiff, Int.reduceLT, Int.reduceLE, Int.reduceEq, Int.reduceMod, Int.reduceDiv, reduceCtorEq]) | refine vIfE_of (fun _ => ?_) (fun _ => ?_) | refine vIfD_of (fun _ => ?_) (fun _ => ?_) | refine vIfQ_of (fun _ => ?_) (fun _ => ?_) | refine vIfV_of (fun _ => ?_) (fun _ => ?_) | refine And.intro (by omega) ?_ | fail)
    exact hl1
theorem own : ownKnob Try.prog.godebug = none := by kernel_rfl
theorem lifted (os : Os) (started : os.Started) (H : Type) (enc : TypeId × Value → H) :
    ReturnsInHanded {} Try.checked os 11 .any (Rows.zigOrderSpec.pre6 enc Try.prog Try.f11 Rows.zigOrderRow.domain false) (Rows.zigOrderSpec.post enc Try.prog Try.f11 false true false false) := by
  refine lifted_later (C := Try.checked) own started (by kernel_rfl) Try.func11 hb11
    (ChangeSpec.witness6 (enc := enc) (C := Try.checked) false ⟨#[], #[.int .i64 0, .int .i64 0], []⟩ 11 (by kernel_rfl) (by kernel_rfl) (by kernel_rfl) (by kernel_rfl))
    (by kernel_rfl) (list_all (by kernel_rfl)) (by kernel_rfl) Try.underlying4 rfl ?_ ?_
  · intro ds h
    have h : ds.length = 2 := h
    match ds, h with
    | [_, _], _ => rfl
  · intro W base args ds p hval0 hA0
    have hval : ∀ (j : Nat) t v, Try.f11.params[j]? = some t → args[j]? = some v → Value.okWide Try.prog W .any base t v := hval0
    have hA : DataW.TrodAll enc Try.prog W 0 (fun _ => true) true Try.f11.params.toList args.toList ds p := hA0
    rw [Try.params11] at hA hval
    obtain ⟨v0, vs0, d0, ds0, p0, q0, hargs, rfl, rfl, h0, r0⟩ := trodAll_cons hA
    obtain ⟨v1, vs1, d1, ds1, p1, q1, rfl, rfl, rfl, h1, r1⟩ := trodAll_cons r0
    obtain ⟨rfl, rfl, rfl⟩ := trodAll_nil r1
    obtain rfl : args = #[v0, v1] := by cases args; simp_all
    obtain ⟨a0, rfl, rfl, rfl, w0⟩ := open_int Try.underlying3 (hval 0 3 v0 rfl rfl) h0
    obtain ⟨a1, rfl, rfl, rfl, w1⟩ := open_int Try.underlying3 (hval 1 3 v1 rfl rfl) h1
    exact law_c a0 a1 W (i64_of_wf w0) (i64_of_wf w1)
theorem over : Rows.zigOrderRow.holds Try.pinned (OpenSpec.ofChange Rows.zigOrderSpec) :=
  OpenClaim.holds_of_wide 11 Try.f11 rfl rfl rfl rfl rfl rfl rfl ⟨rfl, rfl, rfl, rfl, rfl⟩ rfl rfl rfl rfl rfl (by kernel_rfl) Try.func11 (by kernel_rfl)
    (of_decide_eq_true (by kernel_rfl)) (by unfold Func.isWrapper; first | (rw [if_pos (by decide +kernel)]; kernel_rfl) | (rw [if_neg (by decide +kernel)]; exact ⟨rfl, rfl⟩))
    (fun os started H enc _ => lifted os started H enc)
/-- The statement. -/
theorem proved : Rows.ZigOrderSaid :=
  over
end Go.Proofs.Ytgomibebepmlhaa.zigOrder
