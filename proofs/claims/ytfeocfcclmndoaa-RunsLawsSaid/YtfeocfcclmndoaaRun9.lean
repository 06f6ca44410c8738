/- Contracts: the program's set of a list. -/
import Derived.Test.YtfeocfcclmndoaaRun8
import Derived.Test.YtfeocfcclmndoaaLaid
set_option linter.unusedSimpArgs false
namespace Go.Proofs.Ytfeocfcclmndoaa
open Go.Vc Go.Run Go.Sort
set_option maxRecDepth 100000
theorem hbSort : HasBody Try.prog 76 := hasBody_of Try.func76 (by kernel_rfl)
theorem hbCompact : HasBody Try.prog 77 := hasBody_of Try.func77 (by kernel_rfl)
/-- Numbers of the call's own are put in order, in place. -/
theorem sort_c (v : Value) (l : List Int) (B : Nat) (w : World) (h : OwnI w B 3 v l) (hl : l.length ≤ 1000000) : FnC Try.prog 76 #[v] w fun r w' => r = .tuple #[] ∧ OwnI w' B 3 v (srt l) ∧ Chg w w' v.ownBlock.toList := by
  obtain ⟨o, c, rfl⟩ := h.slice
  by_cases h0 : l.length = 0
  · have e : l = [] := List.length_eq_zero_iff.1 h0
    subst e
    refine FnC.of_calls hbSort (Try.slices_Sort_int_none o c w) ?_
    rintro e w' ⟨rfl, rfl⟩
    have e0 : srt [] = [] := by simp [srt]
    exact ⟨_, rfl, rfl, by rw [e0]; exact h, Chg.refl _ _⟩
  · obtain ⟨g, rfl, _⟩ := own_addr h (by omega)
    obtain ⟨h1, h2, h3⟩ := holds_own (enc := Value.int .i64) h
    refine FnC.of_calls hbSort (Try.slices_Sort_int g 0 c l w h1 h2 (by omega)) ?_
    rintro e w' ⟨rfl, n, os, rfl⟩
    obtain ⟨p1, p2⟩ := own_put (enc := Value.int .i64) (q := n) (os := os) (d := (srt l).toArray) h (by simp [srt_len])
    refine ⟨_, rfl, rfl, ?_, p2⟩
    unfold OwnI
    rw [srt_len]
    exact p1
/-- Each once: what stands in order is compacted, in place. -/
theorem compact_c (v : Value) (l : List Int) (B : Nat) (w : World) (h : OwnI w B 3 v l) (hl : l.length ≤ 1000000) : FnC Try.prog 77 #[v] w fun r w' => OwnI w' B 3 r (uniq l) ∧ Chg w w' v.ownBlock.toList := by
  obtain ⟨o, c, rfl⟩ := h.slice
  by_cases h0 : l.length = 0
  · have e : l = [] := List.length_eq_zero_iff.1 h0
    subst e
    refine FnC.of_calls hbCompact (Try.slices_Compact_int_empty o c w) ?_
    rintro e w' ⟨rfl, rfl⟩
    exact ⟨_, rfl, h, Chg.refl _ _⟩
  · obtain ⟨g, rfl, _⟩ := own_addr h (by omega)
    obtain ⟨h1, h2, h3⟩ := holds_own (enc := Value.int .i64) h
    obtain ⟨_, hc, _⟩ := h.sl.len
    refine FnC.of_calls hbCompact (Try.slices_Compact_int g 0 c l w h1 (by omega) hc) ?_
    rintro e w' ⟨rfl, q, rfl⟩
    have hu := uniq_len l
    have hlen : (uniq l ++ List.replicate (l.length - (uniq l).length) (0 : Int)).length = l.length := by simp; omega
    obtain ⟨p1, p2⟩ := own_put (enc := Value.int .i64) (q := q) (os := #[]) (d := (uniq l ++ List.replicate (l.length - (uniq l).length) (0 : Int)).toArray) h (by simpa using hlen)
    rw [grow_empty] at p1 p2
    refine ⟨_, rfl, ?_, p2⟩
    have := own_less p1 hu
    simp only [List.map_append] at this
    rw [List.take_append_of_le_length (by simp), List.take_of_length_le (by simp)] at this
    exact this
theorem of_c (v : Value) (l : List Int) (w : World) (h : Sl w v (l.map i64v)) (hl : l.length ≤ 100000) : FnC Try.prog 42 #[v] w fun r w' => OfR w' w.heap.size r l ∧ Later w w' := by
  refine enter42 _ ?_
  unfold B42
  repeat' (first | (simp (disch := omega) only [push_cast, ↓reduceIte, Nat.reduceEqDiff, Int.reduceToNat, Nat.reducePow, Int.reducePow, Int.reduceNeg, Nat.reduceMul, Int.reduceMul, Int.reduceAdd, Int.reduceSub, Nat.reduceAdd, Nat.reduceSub, Nat.reduceLeDiff, Int.reduceLT, Int.reduceLE, Int.reduceEq, Int.reduceMod, Int.reduceDiv, reduceCtorEq, not_true_eq_false, not_false_eq_true]) | refine vIfE_of (fun _ => ?_) (fun _ => ?_) | refine vIfD_of (fun _ => ?_) (fun _ => ?_) | refine vIfQ_of (fun _ => ?_) (fun _ => ?_) | refine vIfV_of (fun _ => ?_) (fun _ => ?_) | refine And.intro (by omega) ?_ | refine drawn_q ?_ | fail)
  refine (containsF_c v l _ out_ ofF_c w h).mono ?_
  rintro _ w1 ⟨rfl, hl1⟩
  cases hout : l.any out_ with
  | true =>
    repeat' (first | (simp (disch := omega) only [push_cast, ↓reduceIte, Nat.reduceEqDiff, Int.reduceToNat, Nat.reducePow, Int.reducePow, Int.reduceNeg, Nat.reduceMul, Int.reduceMul, Int.reduceAdd, Int.reduceSub, Nat.reduceAdd, Nat.reduceSub, Nat.reduceLeDiff, Int.reduceLT, Int.reduceLE, Int.reduceEq, Int.reduceMod, Int.reduceDiv, reduceCtorEq, not_true_eq_false, not_false_eq_true]) | refine vIfE_of (fun _ => ?_) (fun _ => ?_) | refine vIfD_of (fun _ => ?_) (fun _ => ?_) | refine vIfQ_of (fun _ => ?_) (fun _ => ?_) | refine vIfV_of (fun _ => ?_) (fun _ => ?_) | refine And.intro (by omega) ?_ | refine drawn_q ?_ | fail)
    have := of_bad (w := w1) (B := w.heap.size) hout
    first | exact ⟨this, hl1⟩ | exact hl1
  | false =>
    repeat' (first | (simp (disch := omega) only [push_cast, ↓reduceIte, Nat.reduceEqDiff, Int.reduceToNat, Nat.reducePow, Int.reducePow, Int.reduceNeg, Nat.reduceMul, Int.reduceMul, Int.reduceAdd, Int.reduceSub, Nat.reduceAdd, Nat.reduceSub, Nat.reduceLeDiff, Int.reduceLT, Int.reduceLE, Int.reduceEq, Int.reduceMod, Int.reduceDiv, reduceCtorEq, not_true_eq_false, not_false_eq_true]) | refine vIfE_of (fun _ => ?_) (fun _ => ?_) | refine vIfD_of (fun _ => ?_) (fun _ => ?_) | refine vIfQ_of (fun _ => ?_) (fun _ => ?_) | refine vIfV_of (fun _ => ?_) (fun _ => ?_) | refine And.intro (by omega) ?_ | refine drawn_q ?_ | fail)
    refine (clone_c v l w1 (h.later hl1) (by omega)).mono ?_
    rintro v2 w2 ⟨ho2, hl2⟩
    repeat' (first | (simp (disch := omega) only [push_cast, ↓reduceIte, Nat.reduceEqDiff, Int.reduceToNat, Nat.reducePow, Int.reducePow, Int.reduceNeg, Nat.reduceMul, Int.reduceMul, Int.reduceAdd, Int.reduceSub, Nat.reduceAdd, Nat.reduceSub, Nat.reduceLeDiff, Int.reduceLT, Int.reduceLE, Int.reduceEq, Int.reduceMod, Int.reduceDiv, reduceCtorEq, not_true_eq_false, not_false_eq_true]) | refine vIfE_of (fun _ => ?_) (fun _ => ?_) | refine vIfD_of (fun _ => ?_) (fun _ => ?_) | refine vIfQ_of (fun _ => ?_) (fun _ => ?_) | refine vIfV_of (fun _ => ?_) (fun _ => ?_) | refine And.intro (by omega) ?_ | refine drawn_q ?_ | fail)
    refine (sort_c v2 l w1.heap.size w2 ho2 (by omega)).mono ?_
    rintro _ w3 ⟨rfl, ho3, hg3⟩
    have hl3 := hg3.later hl2 (own_ge ho2)
    repeat' (first | (simp (disch := omega) only [push_cast, ↓reduceIte, Nat.reduceEqDiff, Int.reduceToNat, Nat.reducePow, Int.reducePow, Int.reduceNeg, Nat.reduceMul, Int.reduceMul, Int.reduceAdd, Int.reduceSub, Nat.reduceAdd, Nat.reduceSub, Nat.reduceLeDiff, Int.reduceLT, Int.reduceLE, Int.reduceEq, Int.reduceMod, Int.reduceDiv, reduceCtorEq, not_true_eq_false, not_false_eq_true]) | refine vIfE_of (fun _ => ?_) (fun _ => ?_) | refine vIfD_of (fun _ => ?_) (fun _ => ?_) | refine vIfQ_of (fun _ => ?_) (fun _ => ?_) | refine vIfV_of (fun _ => ?_) (fun _ => ?_) | refine And.intro (by omega) ?_ | refine drawn_q ?_ | fail)
    refine (compact_c v2 (srt l) w1.heap.size w3 ho3 (by rw [srt_len]; omega)).mono ?_
    rintro v4 w4 ⟨ho4, hg4⟩
    have hl4 := hg4.later hl3 (own_ge ho3)
    obtain ⟨u1, u2⟩ := uniq_spec (srt_pair l)
    have ul := uniq_len (srt l)
    rw [srt_len] at ul
    have umem : ∀ x, x ∈ uniq (srt l) ↔ x ∈ l := fun x => by rw [u2, srt_mem]
    have uasc : Asc (uniq (srt l)) := u1
    generalize uniq (srt l) = m at *
    have hos := ho4.sl
    obtain ⟨o4, c4, rfl⟩ := ho4.slice
    repeat' (first | (simp (disch := omega) only [push_cast, ↓reduceIte, Nat.reduceEqDiff, Int.reduceToNat, Nat.reducePow, Int.reducePow, Int.reduceNeg, Nat.reduceMul, Int.reduceMul, Int.reduceAdd, Int.reduceSub, Nat.reduceAdd, Nat.reduceSub, Nat.reduceLeDiff, Int.reduceLT, Int.reduceLE, Int.reduceEq, Int.reduceMod, Int.reduceDiv, reduceCtorEq, not_true_eq_false, not_false_eq_true]) | refine vIfE_of (fun _ => ?_) (fun _ => ?_) | refine vIfD_of (fun _ => ?_) (fun _ => ?_) | refine vIfQ_of (fun _ => ?_) (fun _ => ?_) | refine vIfV_of (fun _ => ?_) (fun _ => ?_) | refine And.intro (by omega) ?_ | refine drawn_q ?_ | fail)
    refine vc_loop W42_0 (fun p : Nat × Value => [(4, p.2), (16, .int .i64 (p.1 : Int))]) (fun p w' => p.1 ≤ m.length ∧ Later w4 w' ∧ OwnP w' w4.heap.size 63 p.2 (setOf (m.take p.1))) (fun p => m.length - p.1) (0, .slice none 0 0) (by decide) ?_ ?_ ?_
    · simp (disch := omega) only [push_cast, ↓reduceIte, Nat.reduceEqDiff, Int.reduceToNat, Nat.reducePow, Int.reducePow, Int.reduceNeg, Nat.reduceMul, Int.reduceMul, Int.reduceAdd, Int.reduceSub, Nat.reduceAdd, Nat.reduceSub, Nat.reduceLeDiff, Int.reduceLT, Int.reduceLE, Int.reduceEq, Int.reduceMod, Int.reduceDiv, reduceCtorEq, not_true_eq_false, not_false_eq_true]
    · exact ⟨by omega, Later.refl _, OwnP.nil _ _ _⟩
    rintro ⟨i, y⟩ uu w5 ⟨hi, hl5, ho5⟩
    dsimp only at hi ho5
    by_cases hlt : i < m.length
    · obtain ⟨a, rfl⟩ := hos.some hlt
      have c0 := (hos.later hl5).atI hlt
      have hxin : 0 ≤ m[i] ∧ m[i] < 65536 := out_iff.1 hout _ ((umem _).1 (List.getElem_mem _))
      have hsn : setOf (m.take (i + 1)) = wth (setOf (m.take i)) (m[i], m[i] + 1) := by rw [take_snoc m i hlt, setOf_snoc]
      have hsl := setOf_len (m.take i)
      rw [List.length_take] at hsl
      generalize m[i] = x at *
      repeat' (first | (simp (disch := omega) only [push_cast, ↓reduceIte, Nat.reduceEqDiff, Int.reduceToNat, Nat.reducePow, Int.reducePow, Int.reduceNeg, Nat.reduceMul, Int.reduceMul, Int.reduceAdd, Int.reduceSub, Nat.reduceAdd, Nat.reduceSub, Nat.reduceLeDiff, Int.reduceLT, Int.reduceLE, Int.reduceEq, Int.reduceMod, Int.reduceDiv, reduceCtorEq, not_true_eq_false, not_false_eq_true, c0]) | refine vIfE_of (fun _ => ?_) (fun _ => ?_) | refine vIfD_of (fun _ => ?_) (fun _ => ?_) | refine vIfQ_of (fun _ => ?_) (fun _ => ?_) | refine vIfV_of (fun _ => ?_) (fun _ => ?_) | refine And.intro (by omega) ?_ | refine drawn_q ?_ | fail)
      refine (with_c y _ x (x + 1) w4.heap.size w5 ho5 hl5.size (by omega)).mono ?_
      rintro y2 w6 ⟨ho6, hg6, _⟩
      have hl6 := hg6.later hl5 (own_ge ho5)
      repeat' (first | (simp (disch := omega) only [push_cast, ↓reduceIte, Nat.reduceEqDiff, Int.reduceToNat, Nat.reducePow, Int.reducePow, Int.reduceNeg, Nat.reduceMul, Int.reduceMul, Int.reduceAdd, Int.reduceSub, Nat.reduceAdd, Nat.reduceSub, Nat.reduceLeDiff, Int.reduceLT, Int.reduceLE, Int.reduceEq, Int.reduceMod, Int.reduceDiv, reduceCtorEq, not_true_eq_false, not_false_eq_true]) | refine vIfE_of (fun _ => ?_) (fun _ => ?_) | refine vIfD_of (fun _ => ?_) (fun _ => ?_) | refine vIfQ_of (fun _ => ?_) (fun _ => ?_) | refine vIfV_of (fun _ => ?_) (fun _ => ?_) | refine And.intro (by omega) ?_ | refine drawn_q ?_ | fail)
      refine ⟨rfl, (i + 1, y2), by simp (disch := omega) only [push_cast, ↓reduceIte, Nat.reduceEqDiff, Int.reduceToNat, Nat.reducePow, Int.reducePow, Int.reduceNeg, Nat.reduceMul, Int.reduceMul, Int.reduceAdd, Int.reduceSub, Nat.reduceAdd, Nat.reduceSub, Nat.reduceLeDiff, Int.reduceLT, Int.reduceLE, Int.reduceEq, Int.reduceMod, Int.reduceDiv, reduceCtorEq, not_true_eq_false, not_false_eq_true], ⟨by dsimp only; omega, hl6, ?_⟩, by dsimp only; omega⟩
      dsimp only
      rw [hsn]; exact ho6
    · have e : i = m.length := by omega
      subst e
      rw [List.take_length] at ho5
      repeat' (first | (simp (disch := omega) only [push_cast, ↓reduceIte, Nat.reduceEqDiff, Int.reduceToNat, Nat.reducePow, Int.reducePow, Int.reduceNeg, Nat.reduceMul, Int.reduceMul, Int.reduceAdd, Int.reduceSub, Nat.reduceAdd, Nat.reduceSub, Nat.reduceLeDiff, Int.reduceLT, Int.reduceLE, Int.reduceEq, Int.reduceMod, Int.reduceDiv, reduceCtorEq, not_true_eq_false, not_false_eq_true]) | refine vIfE_of (fun _ => ?_) (fun _ => ?_) | refine vIfD_of (fun _ => ?_) (fun _ => ?_) | refine vIfQ_of (fun _ => ?_) (fun _ => ?_) | refine vIfV_of (fun _ => ?_) (fun _ => ?_) | refine And.intro (by omega) ?_ | refine drawn_q ?_ | fail)
      have hok := of_ok hout uasc umem (ho5.base (hl1.trans hl4).size)
      first | exact ⟨hok, (hl1.trans hl4).trans hl5⟩ | exact (hl1.trans hl4).trans hl5
end Go.Proofs.Ytfeocfcclmndoaa
