/- NibbleJoin holds for every input: numbers that are packed in sixteen bits have the bytes of their parts, one behind the other, wherever they are cut. -/
import Derived.Test.YtkchefbnamiikaaRows
import Derived.Test.YtkchefbnamiikaaNib6
import Derived.Test.YtkchefbnamiikaaCodesNL
import Derived.Test.YtkchefbnamiikaaRow
set_option linter.unusedSimpArgs false
namespace Go.Proofs.Ytkchefbnamiikaa.nibbleJoin
open Go.Vc Go.Nib Go.ChangeShapes Go.WideShapes Go.ChangeAt Go.RowKit
def low (l : List UInt64) : List UInt64 := l.map fun x => UInt64.ofNat (x.toNat % 65536)
theorem low_len (l : List UInt64) : (low l).length = l.length := by simp [low]
theorem low_snoc (l : List UInt64) (x : UInt64) : low (l ++ [x]) = low l ++ [UInt64.ofNat (x.toNat % 65536)] := by simp [low]
theorem low_wid (l : List UInt64) : wid (low l) ≤ 16 := (wid_le 16 _).2 fun x hx => by
  obtain ⟨y, _, rfl⟩ := List.mem_map.1 hx
  rw [UInt64.toNat_ofNat']
  omega
theorem and_low (x : UInt64) : bitI .and .u64 (x.toNat : Int) 65535 = ((x.toNat % 65536 : Nat) : Int) := by
  have h := bit_u64_and x.toNat 65535 (UInt64.toNat_lt x)
  have e := Nat.and_two_pow_sub_one_eq_mod x.toNat 16
  rw [show (65535 : Nat) = 2 ^ 16 - 1 from rfl, e] at h
  exact h
theorem pk16 (l : List UInt64) (h : wid l ≤ 16) (hl : l.length ≤ 300) : pkE l.length (wid l) 16 = 0 ∧ pkR l 16 = pack l 16 := by
  have h2 : pkE l.length (wid l) 16 = 0 := by
    unfold pkE
    rw [if_neg (by omega), if_neg (by omega)]
  refine ⟨h2, ?_⟩
  unfold pkR
  rw [if_pos h2]; rfl
theorem wid_sub {l m : List UInt64} (h : wid l ≤ 16) (hs : ∀ x ∈ m, x ∈ l) : wid m ≤ 16 := (wid_le 16 m).2 fun x hx => (wid_le 16 l).1 h x (hs x hx)
set_option maxRecDepth 100000 in
theorem law_c (v : Value) (l : List UInt64) (at_ : Int) (w : World) (h : Sl w v (l.map u64v)) (h1 : -9223372036854775808 ≤ at_ ∧ at_ ≤ 9223372036854775807) : FnC Try.prog 5 #[v, .int .i64 at_] w fun v w' => v = .bool true ∧ Later w w' := by
  have hs := h
  obtain ⟨o, c, rfl, g1, g2, h, h3⟩ := h.openM
  refine enter5 _ _ ?_
  unfold B5
  by_cases hb : 300 < l.length ∨ at_ < 0 ∨ (l.length : Int) < at_
  · repeat' (first | (simp (disch := omega) only [push_cast, ↓reduceIte, Nat.reduceEqDiff, Int.reduceToNat, Nat.reducePow, Int.reducePow, Int.reduceNeg, Nat.reduceMul, Int.reduceMul, Int.reduceAdd, Int.reduceSub, Nat.reduceAdd, Nat.reduceSub, Nat.reduceLeDiff, Int.reduceLT, Int.reduceLE, Int.reduceEq, Int.reduceMod, Int.reduceDiv, reduceCtorEq, not_true_eq_false, not_false_eq_true]) | refine vIfE_of (fun _ => ?_) (fun _ => ?_) | refine vIfD_of (fun _ => ?_) (fun _ => ?_) | refine vIfQ_of (fun _ => ?_) (fun _ => ?_) | refine vIfV_of (fun _ => ?_) (fun _ => ?_) | refine And.intro (by omega) ?_ | refine drawn_q ?_ | fail)
    all_goals first
      | (refine (nalive_c w).mono ?_
         rintro _ w1 ⟨rfl, hl1⟩
         repeat' (first | (simp (disch := omega) only [push_cast, ↓reduceIte, Nat.reduceEqDiff, Int.reduceToNat, Nat.reducePow, Int.reducePow, Int.reduceNeg, Nat.reduceMul, Int.reduceMul, Int.reduceAdd, Int.reduceSub, Nat.reduceAdd, Nat.reduceSub, Nat.reduceLeDiff, Int.reduceLT, Int.reduceLE, Int.reduceEq, Int.reduceMod, Int.reduceDiv, reduceCtorEq, not_true_eq_false, not_false_eq_true]) | refine vIfE_of (fun _ => ?_) (fun _ => ?_) | refine vIfD_of (fun _ => ?_) (fun _ => ?_) | refine vIfQ_of (fun _ => ?_) (fun _ => ?_) | refine vIfV_of (fun _ => ?_) (fun _ => ?_) | refine And.intro (by omega) ?_ | refine drawn_q ?_ | fail)
         exact hl1)
      | (exfalso; omega)
  repeat' (first | (simp (disch := omega) only [push_cast, ↓reduceIte, Nat.reduceEqDiff, Int.reduceToNat, Nat.reducePow, Int.reducePow, Int.reduceNeg, Nat.reduceMul, Int.reduceMul, Int.reduceAdd, Int.reduceSub, Nat.reduceAdd, Nat.reduceSub, Nat.reduceLeDiff, Int.reduceLT, Int.reduceLE, Int.reduceEq, Int.reduceMod, Int.reduceDiv, reduceCtorEq, not_true_eq_false, not_false_eq_true]) | refine vIfE_of (fun _ => ?_) (fun _ => ?_) | refine vIfD_of (fun _ => ?_) (fun _ => ?_) | refine vIfQ_of (fun _ => ?_) (fun _ => ?_) | refine vIfV_of (fun _ => ?_) (fun _ => ?_) | refine And.intro (by omega) ?_ | refine drawn_q ?_ | fail)
  refine vc_loop W5_0 (fun p : Nat × Value => [(5, p.2), (6, .int .i64 (p.1 : Int))])
    (fun p w' => p.1 ≤ l.length ∧ Later w w' ∧ OwnW w' w.heap.size 32 p.2 (low (l.take p.1))) (fun p => l.length - p.1) (0, .slice none 0 0) (by decide) ?_ ?_ ?_
  · simp (disch := omega) only [push_cast, ↓reduceIte, Nat.reduceEqDiff, Int.reduceToNat, Nat.reducePow, Int.reducePow, Int.reduceNeg, Nat.reduceMul, Int.reduceMul, Int.reduceAdd, Int.reduceSub, Nat.reduceAdd, Nat.reduceSub, Nat.reduceLeDiff, Int.reduceLT, Int.reduceLE, Int.reduceEq, Int.reduceMod, Int.reduceDiv, reduceCtorEq, not_true_eq_false, not_false_eq_true]
  · exact ⟨by omega, Later.refl _, own_nil _ _ _ _⟩
  rintro ⟨i, v⟩ uu w2 ⟨hi, hl2, ho⟩
  dsimp only at hi ho
  have htl : (low (l.take i)).length = i := by rw [low_len]; simp; omega
  obtain ⟨ov, cv, rfl⟩ := ho.slice
  rw [htl]
  by_cases hi' : i < l.length
  · obtain ⟨a, rfl⟩ := h.some hi'
    have hc := (h.later hl2).at64 hi'
    have ht := take_snoc l i hi'
    have hal := and_low l[i]
    unfold OwnW at ho
    rw [htl] at ho
    have hx : u64v (UInt64.ofNat (l[i].toNat % 65536)) = .int .u64 ((l[i].toNat % 65536 : Nat) : Int) := u64v_nat (by omega)
    generalize hX : l[i].toNat % 65536 = X at *
    repeat' (first | (simp (disch := omega) only [push_cast, ↓reduceIte, Nat.reduceEqDiff, Int.reduceToNat, Nat.reducePow, Int.reducePow, Int.reduceNeg, Nat.reduceMul, Int.reduceMul, Int.reduceAdd, Int.reduceSub, Nat.reduceAdd, Nat.reduceSub, Nat.reduceLeDiff, Int.reduceLT, Int.reduceLE, Int.reduceEq, Int.reduceMod, Int.reduceDiv, reduceCtorEq, not_true_eq_false, not_false_eq_true, hc, hal]) | refine vIfE_of (fun _ => ?_) (fun _ => ?_) | refine vIfD_of (fun _ => ?_) (fun _ => ?_) | refine vIfQ_of (fun _ => ?_) (fun _ => ?_) | refine vIfV_of (fun _ => ?_) (fun _ => ?_) | refine And.intro (by omega) ?_ | refine drawn_q ?_ | fail)
    refine vAppend_one Try.underlying22 ti32 rfl ho rfl (by unfold maxLen; omega) (by omega) hl2.size ?_
    intro v4 w4 h4 hg4
    rw [← hx] at h4
    have ho4 := own_app64 h4
    rw [← hX, ← low_snoc, ← ht] at ho4
    repeat' (first | (simp (disch := omega) only [push_cast, ↓reduceIte, Nat.reduceEqDiff, Int.reduceToNat, Nat.reducePow, Int.reducePow, Int.reduceNeg, Nat.reduceMul, Int.reduceMul, Int.reduceAdd, Int.reduceSub, Nat.reduceAdd, Nat.reduceSub, Nat.reduceLeDiff, Int.reduceLT, Int.reduceLE, Int.reduceEq, Int.reduceMod, Int.reduceDiv, reduceCtorEq, not_true_eq_false, not_false_eq_true]) | refine vIfE_of (fun _ => ?_) (fun _ => ?_) | refine vIfD_of (fun _ => ?_) (fun _ => ?_) | refine vIfQ_of (fun _ => ?_) (fun _ => ?_) | refine vIfV_of (fun _ => ?_) (fun _ => ?_) | refine And.intro (by omega) ?_ | refine drawn_q ?_ | fail)
    exact ⟨rfl, (i + 1, v4), by simp (disch := omega) only [push_cast, ↓reduceIte, Nat.reduceEqDiff, Int.reduceToNat, Nat.reducePow, Int.reducePow, Int.reduceNeg, Nat.reduceMul, Int.reduceMul, Int.reduceAdd, Int.reduceSub, Nat.reduceAdd, Nat.reduceSub, Nat.reduceLeDiff, Int.reduceLT, Int.reduceLE, Int.reduceEq, Int.reduceMod, Int.reduceDiv, reduceCtorEq, not_true_eq_false, not_false_eq_true], ⟨by dsimp only; omega, hg4 _ hl2 (Nat.le_refl _), ho4⟩, by simp; omega⟩
  have e : i = l.length := by omega
  subst e
  rw [List.take_length] at ho htl
  obtain ⟨n, rfl⟩ := Int.eq_ofNat_of_zero_le (show 0 ≤ at_ by omega)
  have hw16 := low_wid l
  generalize low l = m at *
  have hsm := ho.sl
  rw [htl] at hsm
  repeat' (first | (simp (disch := omega) only [push_cast, ↓reduceIte, Nat.reduceEqDiff, Int.reduceToNat, Nat.reducePow, Int.reducePow, Int.reduceNeg, Nat.reduceMul, Int.reduceMul, Int.reduceAdd, Int.reduceSub, Nat.reduceAdd, Nat.reduceSub, Nat.reduceLeDiff, Int.reduceLT, Int.reduceLE, Int.reduceEq, Int.reduceMod, Int.reduceDiv, reduceCtorEq, not_true_eq_false, not_false_eq_true]) | refine vIfE_of (fun _ => ?_) (fun _ => ?_) | refine vIfD_of (fun _ => ?_) (fun _ => ?_) | refine vIfQ_of (fun _ => ?_) (fun _ => ?_) | refine vIfV_of (fun _ => ?_) (fun _ => ?_) | refine And.intro (by omega) ?_ | refine drawn_q ?_ | fail)
  have hcv := hsm.len
  have hA := hsm.pre (k := n) (by omega)
  have hB := hsm.part (l := (n : Int)) (k := (l.length : Int)) (m := (cv : Int)) (by omega) (by omega) (by omega) (by omega) (by omega)
  simp only [Int.toNat_natCast] at hB
  have hm0 : m.take l.length = m := by rw [← htl]; exact List.take_length
  rw [← List.map_take, hm0, ← List.map_drop] at hB
  rw [← List.map_take] at hA
  have k1 := pk16 (m.take n) (wid_sub hw16 fun x hx => List.mem_of_mem_take hx) (by simp; omega)
  have k2 := pk16 (m.drop n) (wid_sub hw16 fun x hx => List.mem_of_mem_drop hx) (by simp; omega)
  have k3 := pk16 m hw16 (by omega)
  have hj : pack m 16 = pack (m.take n) 16 ++ pack (m.drop n) 16 := by
    rw [← pack_join _ _ _ (by simp; omega), List.take_append_drop]
  have hpl := pack_len m 16
  rw [htl] at hpl
  refine ⟨by omega, ?_⟩
  refine (pack_c _ (m.take n) 16 w2 hA (by simp; omega) (by omega)).mono ?_
  rintro _ w3 ⟨⟨x, rfl, hx⟩, hl3⟩
  rw [k1.1]
  rw [k1.2] at hx
  repeat' (first | (simp (disch := omega) only [push_cast, ↓reduceIte, Nat.reduceEqDiff, Int.reduceToNat, Nat.reducePow, Int.reducePow, Int.reduceNeg, Nat.reduceMul, Int.reduceMul, Int.reduceAdd, Int.reduceSub, Nat.reduceAdd, Nat.reduceSub, Nat.reduceLeDiff, Int.reduceLT, Int.reduceLE, Int.reduceEq, Int.reduceMod, Int.reduceDiv, reduceCtorEq, not_true_eq_false, not_false_eq_true]) | refine vIfE_of (fun _ => ?_) (fun _ => ?_) | refine vIfD_of (fun _ => ?_) (fun _ => ?_) | refine vIfQ_of (fun _ => ?_) (fun _ => ?_) | refine vIfV_of (fun _ => ?_) (fun _ => ?_) | refine And.intro (by omega) ?_ | refine drawn_q ?_ | fail)
  refine (pack_c _ (m.drop n) 16 w3 (hB.later hl3) (by simp; omega) (by omega)).mono ?_
  rintro _ w4 ⟨⟨y, rfl, hy⟩, hl4⟩
  rw [k2.1]
  rw [k2.2] at hy
  repeat' (first | (simp (disch := omega) only [push_cast, ↓reduceIte, Nat.reduceEqDiff, Int.reduceToNat, Nat.reducePow, Int.reducePow, Int.reduceNeg, Nat.reduceMul, Int.reduceMul, Int.reduceAdd, Int.reduceSub, Nat.reduceAdd, Nat.reduceSub, Nat.reduceLeDiff, Int.reduceLT, Int.reduceLE, Int.reduceEq, Int.reduceMod, Int.reduceDiv, reduceCtorEq, not_true_eq_false, not_false_eq_true]) | refine vIfE_of (fun _ => ?_) (fun _ => ?_) | refine vIfD_of (fun _ => ?_) (fun _ => ?_) | refine vIfQ_of (fun _ => ?_) (fun _ => ?_) | refine vIfV_of (fun _ => ?_) (fun _ => ?_) | refine And.intro (by omega) ?_ | refine drawn_q ?_ | fail)
  refine (pack_c _ m 16 w4 (hsm.later (hl3.trans hl4)) (by omega) (by omega)).mono ?_
  rintro _ w5 ⟨⟨z, rfl, hz⟩, hl5⟩
  rw [k3.1]
  rw [k3.2] at hz
  repeat' (first | (simp (disch := omega) only [push_cast, ↓reduceIte, Nat.reduceEqDiff, Int.reduceToNat, Nat.reducePow, Int.reducePow, Int.reduceNeg, Nat.reduceMul, Int.reduceMul, Int.reduceAdd, Int.reduceSub, Nat.reduceAdd, Nat.reduceSub, Nat.reduceLeDiff, Int.reduceLT, Int.reduceLE, Int.reduceEq, Int.reduceMod, Int.reduceDiv, reduceCtorEq, not_true_eq_false, not_false_eq_true]) | refine vIfE_of (fun _ => ?_) (fun _ => ?_) | refine vIfD_of (fun _ => ?_) (fun _ => ?_) | refine vIfQ_of (fun _ => ?_) (fun _ => ?_) | refine vIfV_of (fun _ => ?_) (fun _ => ?_) | refine And.intro (by omega) ?_ | refine drawn_q ?_ | fail)
  refine (nalive_c w5).mono ?_
  rintro _ w6 ⟨rfl, hl6⟩
  have hl := (((hl2.trans hl3).trans hl4).trans hl5).trans hl6
  have hx6 := hx.later ((hl4.trans hl5).trans hl6)
  have hy6 := hy.later (hl5.trans hl6)
  have hz6 := hz.later hl6
  obtain ⟨ox, cx, rfl⟩ := hx.slice
  obtain ⟨oy, cy, rfl⟩ := hy.slice
  obtain ⟨oz, cz, rfl⟩ := hz.slice
  repeat' (first | (simp (disch := omega) only [push_cast, ↓reduceIte, Nat.reduceEqDiff, Int.reduceToNat, Nat.reducePow, Int.reducePow, Int.reduceNeg, Nat.reduceMul, Int.reduceMul, Int.reduceAdd, Int.reduceSub, Nat.reduceAdd, Nat.reduceSub, Nat.reduceLeDiff, Int.reduceLT, Int.reduceLE, Int.reduceEq, Int.reduceMod, Int.reduceDiv, reduceCtorEq, not_true_eq_false, not_false_eq_true]) | refine vIfE_of (fun _ => ?_) (fun _ => ?_) | refine vIfD_of (fun _ => ?_) (fun _ => ?_) | refine vIfQ_of (fun _ => ?_) (fun _ => ?_) | refine vIfV_of (fun _ => ?_) (fun _ => ?_) | refine And.intro (by omega) ?_ | refine drawn_q ?_ | fail)
  refine vConv_bytes Try.underlying24 Try.underlying9 Try.underlying5 hz6.sl ?_
  repeat' (first | (simp (disch := omega) only [push_cast, ↓reduceIte, Nat.reduceEqDiff, Int.reduceToNat, Nat.reducePow, Int.reducePow, Int.reduceNeg, Nat.reduceMul, Int.reduceMul, Int.reduceAdd, Int.reduceSub, Nat.reduceAdd, Nat.reduceSub, Nat.reduceLeDiff, Int.reduceLT, Int.reduceLE, Int.reduceEq, Int.reduceMod, Int.reduceDiv, reduceCtorEq, not_true_eq_false, not_false_eq_true]) | refine vIfE_of (fun _ => ?_) (fun _ => ?_) | refine vIfD_of (fun _ => ?_) (fun _ => ?_) | refine vIfQ_of (fun _ => ?_) (fun _ => ?_) | refine vIfV_of (fun _ => ?_) (fun _ => ?_) | refine And.intro (by omega) ?_ | refine drawn_q ?_ | fail)
  refine vConv_bytes Try.underlying24 Try.underlying9 Try.underlying5 hx6.sl ?_
  repeat' (first | (simp (disch := omega) only [push_cast, ↓reduceIte, Nat.reduceEqDiff, Int.reduceToNat, Nat.reducePow, Int.reducePow, Int.reduceNeg, Nat.reduceMul, Int.reduceMul, Int.reduceAdd, Int.reduceSub, Nat.reduceAdd, Nat.reduceSub, Nat.reduceLeDiff, Int.reduceLT, Int.reduceLE, Int.reduceEq, Int.reduceMod, Int.reduceDiv, reduceCtorEq, not_true_eq_false, not_false_eq_true]) | refine vIfE_of (fun _ => ?_) (fun _ => ?_) | refine vIfD_of (fun _ => ?_) (fun _ => ?_) | refine vIfQ_of (fun _ => ?_) (fun _ => ?_) | refine vIfV_of (fun _ => ?_) (fun _ => ?_) | refine And.intro (by omega) ?_ | refine drawn_q ?_ | fail)
  refine vConv_bytes Try.underlying24 Try.underlying9 Try.underlying5 hy6.sl ?_
  have hjl : (pack (m.take n) 16).length + (pack (m.drop n) 16).length = (pack m 16).length := by rw [hj, List.length_append]
  have hpl2 : ((pack m 16).length : Int) = 2 * (l.length : Int) := by omega
  have hsz : (strOf (pack (m.take n) 16)).size + (strOf (pack (m.drop n) 16)).size ≤ 9223372036854775807 := by rw [strOf_size, strOf_size]; omega
  have heq : strOf (pack m 16) = strOf (pack (m.take n) 16) ++ strOf (pack (m.drop n) 16) := by rw [strOf_append, hj]
  repeat' (first | (simp (disch := omega) only [push_cast, ↓reduceIte, Nat.reduceEqDiff, Int.reduceToNat, Nat.reducePow, Int.reducePow, Int.reduceNeg, Nat.reduceMul, Int.reduceMul, Int.reduceAdd, Int.reduceSub, Nat.reduceAdd, Nat.reduceSub, Nat.reduceLeDiff, Int.reduceLT, Int.reduceLE, Int.reduceEq, Int.reduceMod, Int.reduceDiv, reduceCtorEq, not_true_eq_false, not_false_eq_true, hpl2, ← heq]) | refine vIfE_of (fun _ => ?_) (fun _ => ?_) | refine vIfD_of (fun _ => ?_) (fun _ => ?_) | refine vIfQ_of (fun _ => ?_) (fun _ => ?_) | refine vIfV_of (fun _ => ?_) (fun _ => ?_) | refine And.intro (by omega) ?_ | refine drawn_q ?_ | fail)
  all_goals first | exact hl | exact hsz | (exact ⟨hsz, hl⟩) | trace_state
theorem own : ownKnob Try.prog.godebug = none := by kernel_rfl
theorem lifted (os : Os) (started : os.Started) (H : Type) (enc : TypeId × Value → H) :
    ReturnsInHanded {} Try.checked os 5 .any (Rows.nibbleJoinSpec.pre6 enc Try.prog Try.f5 Rows.nibbleJoinRow.domain false) (Rows.nibbleJoinSpec.post enc Try.prog Try.f5 false true false false) := by
  refine lifted_later (C := Try.checked) own started (by kernel_rfl) Try.func5 hb5
    (ChangeSpec.witness6 (enc := enc) (C := Try.checked) false ⟨#[], #[.slice none 0 0, .int .i64 0], []⟩ 5 (by kernel_rfl) (by kernel_rfl) (by kernel_rfl) (by kernel_rfl))
    (by kernel_rfl) (list_all (by kernel_rfl)) (by kernel_rfl) Try.underlying4 rfl ?_ ?_
  · intro ds h
    have h : ds.length = 2 := h
    match ds, h with
    | [_, _], _ => rfl
  · intro W base args ds p hval0 hA0
    have hval : ∀ (j : Nat) t v, Try.f5.params[j]? = some t → args[j]? = some v → Value.okWide Try.prog W .any base t v := hval0
    have hA : DataW.TrodAll enc Try.prog W 0 (fun _ => true) true Try.f5.params.toList args.toList ds p := hA0
    rw [Try.params5] at hA hval
    obtain ⟨v0, vs0, d0, ds0, p0, q0, hargs, rfl, rfl, h0, r0⟩ := trodAll_cons hA
    obtain ⟨v1, vs1, d1, ds1, p1, q1, rfl, rfl, rfl, h1, r1⟩ := trodAll_cons r0
    obtain ⟨rfl, rfl, rfl⟩ := trodAll_nil r1
    obtain rfl : args = #[v0, v1] := by cases args; simp_all
    obtain ⟨a0, w0⟩ := open_u64s Try.underlying22 Try.underlying32 (by kernel_rfl) (hval 0 22 v0 rfl rfl) h0
    obtain ⟨a1, rfl, rfl, rfl, w1⟩ := open_int Try.underlying3 (hval 1 3 v1 rfl rfl) h1
    exact law_c v0 a0 a1 W w0 (i64_of_wf w1)
theorem over : Rows.nibbleJoinRow.holds Try.pinned (OpenSpec.ofChange Rows.nibbleJoinSpec) :=
  OpenClaim.holds_of_wide 5 Try.f5 rfl rfl rfl rfl rfl rfl rfl ⟨rfl, rfl, rfl, rfl, rfl⟩ rfl rfl rfl rfl rfl (by kernel_rfl) Try.func5 (by kernel_rfl)
    (of_decide_eq_true (by kernel_rfl)) (by unfold Func.isWrapper; first | (rw [if_pos (by decide +kernel)]; kernel_rfl) | (rw [if_neg (by decide +kernel)]; exact ⟨rfl, rfl⟩))
    (fun os started H enc _ => lifted os started H enc)
/-- The statement. -/
theorem proved : Rows.NibbleJoinSaid :=
  over
end Go.Proofs.Ytkchefbnamiikaa.nibbleJoin
