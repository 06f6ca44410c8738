/- Contracts: whether a list has a number of a kind; a list of one's own; the document's rising numbers, and its set of a list. -/
import Derived.Test.YtfeocfcclmndoaaRun3
import Derived.Test.YtfeocfcclmndoaaRunP2
import Derived.Test.YtfeocfcclmndoaaShelf
set_option linter.unusedSimpArgs false
namespace Go.Proofs.Ytfeocfcclmndoaa
open Go.Vc Go.Run
set_option maxRecDepth 100000
theorem indexF_c (v : Value) (l : List Int) (f : FuncId) (p : Int → Bool) (hf : ∀ (x : Int) (w : World), FnC Try.prog f #[.int .i64 x] w fun v w' => v = .bool (p x) ∧ Later w w') (w : World) (h : Sl w v (l.map i64v)) :
    FnC Try.prog 92 #[v, .func (.func f) #[] #[]] w fun r w' => (∃ k : Int, r = .int .i64 k ∧ ((0 ≤ k) ↔ l.any p = true)) ∧ Later w w' := by
  obtain ⟨o, c, rfl, g1, g2, h, g3⟩ := h.openM
  refine enter92 _ _ ?_
  unfold B92
  repeat' (first | (simp (disch := omega) only [push_cast, ↓reduceIte, Nat.reduceEqDiff, Int.reduceToNat, Nat.reducePow, Int.reducePow, Int.reduceNeg, Nat.reduceMul, Int.reduceMul, Int.reduceAdd, Int.reduceSub, Nat.reduceAdd, Nat.reduceSub, Nat.reduceLeDiff, Int.reduceLT, Int.reduceLE, Int.reduceEq, Int.reduceMod, Int.reduceDiv, reduceCtorEq, not_true_eq_false, not_false_eq_true]) | refine vIfE_of (fun _ => ?_) (fun _ => ?_) | refine vIfD_of (fun _ => ?_) (fun _ => ?_) | refine vIfQ_of (fun _ => ?_) (fun _ => ?_) | refine vIfV_of (fun _ => ?_) (fun _ => ?_) | refine And.intro (by omega) ?_ | refine drawn_q ?_ | fail)
  refine vc_loop W92_0 (fun i : Nat => [(8, .int .i64 (i : Int))]) (fun i w' => i ≤ l.length ∧ Later w w' ∧ (l.take i).any p = false) (fun i => l.length - i) 0 (by decide) ?_ ?_ ?_
  · simp (disch := omega) only [push_cast, ↓reduceIte, Nat.reduceEqDiff, Int.reduceToNat, Nat.reducePow, Int.reducePow, Int.reduceNeg, Nat.reduceMul, Int.reduceMul, Int.reduceAdd, Int.reduceSub, Nat.reduceAdd, Nat.reduceSub, Nat.reduceLeDiff, Int.reduceLT, Int.reduceLE, Int.reduceEq, Int.reduceMod, Int.reduceDiv, reduceCtorEq, not_true_eq_false, not_false_eq_true]
  · exact ⟨by omega, Later.refl _, rfl⟩
  rintro i uu w1 ⟨hi, hl1, hf0⟩
  by_cases hlt : i < l.length
  · obtain ⟨a, rfl⟩ := h.some hlt
    have c0 := (h.later hl1).atI hlt
    have hsn : (l.take (i + 1)).any p = p l[i] := by rw [take_snoc l i hlt, List.any_append, hf0]; simp
    have hyes : p l[i] = true → l.any p = true := fun hp => List.any_eq_true.2 ⟨_, List.getElem_mem _, hp⟩
    generalize l[i] = x at *
    repeat' (first | (simp (disch := omega) only [push_cast, ↓reduceIte, Nat.reduceEqDiff, Int.reduceToNat, Nat.reducePow, Int.reducePow, Int.reduceNeg, Nat.reduceMul, Int.reduceMul, Int.reduceAdd, Int.reduceSub, Nat.reduceAdd, Nat.reduceSub, Nat.reduceLeDiff, Int.reduceLT, Int.reduceLE, Int.reduceEq, Int.reduceMod, Int.reduceDiv, reduceCtorEq, not_true_eq_false, not_false_eq_true, c0]) | refine vIfE_of (fun _ => ?_) (fun _ => ?_) | refine vIfD_of (fun _ => ?_) (fun _ => ?_) | refine vIfQ_of (fun _ => ?_) (fun _ => ?_) | refine vIfV_of (fun _ => ?_) (fun _ => ?_) | refine And.intro (by omega) ?_ | refine drawn_q ?_ | fail)
    refine (hf x w1).mono ?_
    rintro _ w2 ⟨rfl, hl2⟩
    cases hp : p x with
    | true =>
      repeat' (first | (simp (disch := omega) only [push_cast, ↓reduceIte, Nat.reduceEqDiff, Int.reduceToNat, Nat.reducePow, Int.reducePow, Int.reduceNeg, Nat.reduceMul, Int.reduceMul, Int.reduceAdd, Int.reduceSub, Nat.reduceAdd, Nat.reduceSub, Nat.reduceLeDiff, Int.reduceLT, Int.reduceLE, Int.reduceEq, Int.reduceMod, Int.reduceDiv, reduceCtorEq, not_true_eq_false, not_false_eq_true]) | refine vIfE_of (fun _ => ?_) (fun _ => ?_) | refine vIfD_of (fun _ => ?_) (fun _ => ?_) | refine vIfQ_of (fun _ => ?_) (fun _ => ?_) | refine vIfV_of (fun _ => ?_) (fun _ => ?_) | refine And.intro (by omega) ?_ | refine drawn_q ?_ | fail)
      exact ⟨⟨_, rfl, ⟨fun _ => hyes hp, fun _ => by omega⟩⟩, hl1.trans hl2⟩
    | false =>
      repeat' (first | (simp (disch := omega) only [push_cast, ↓reduceIte, Nat.reduceEqDiff, Int.reduceToNat, Nat.reducePow, Int.reducePow, Int.reduceNeg, Nat.reduceMul, Int.reduceMul, Int.reduceAdd, Int.reduceSub, Nat.reduceAdd, Nat.reduceSub, Nat.reduceLeDiff, Int.reduceLT, Int.reduceLE, Int.reduceEq, Int.reduceMod, Int.reduceDiv, reduceCtorEq, not_true_eq_false, not_false_eq_true]) | refine vIfE_of (fun _ => ?_) (fun _ => ?_) | refine vIfD_of (fun _ => ?_) (fun _ => ?_) | refine vIfQ_of (fun _ => ?_) (fun _ => ?_) | refine vIfV_of (fun _ => ?_) (fun _ => ?_) | refine And.intro (by omega) ?_ | refine drawn_q ?_ | fail)
      exact ⟨rfl, i + 1, by simp (disch := omega) only [push_cast, ↓reduceIte, Nat.reduceEqDiff, Int.reduceToNat, Nat.reducePow, Int.reducePow, Int.reduceNeg, Nat.reduceMul, Int.reduceMul, Int.reduceAdd, Int.reduceSub, Nat.reduceAdd, Nat.reduceSub, Nat.reduceLeDiff, Int.reduceLT, Int.reduceLE, Int.reduceEq, Int.reduceMod, Int.reduceDiv, reduceCtorEq, not_true_eq_false, not_false_eq_true], ⟨by omega, hl1.trans hl2, by rw [hsn, hp]⟩, by dsimp only; omega⟩
  · have e : i = l.length := by omega
    subst e
    rw [List.take_length] at hf0
    repeat' (first | (simp (disch := omega) only [push_cast, ↓reduceIte, Nat.reduceEqDiff, Int.reduceToNat, Nat.reducePow, Int.reducePow, Int.reduceNeg, Nat.reduceMul, Int.reduceMul, Int.reduceAdd, Int.reduceSub, Nat.reduceAdd, Nat.reduceSub, Nat.reduceLeDiff, Int.reduceLT, Int.reduceLE, Int.reduceEq, Int.reduceMod, Int.reduceDiv, reduceCtorEq, not_true_eq_false, not_false_eq_true]) | refine vIfE_of (fun _ => ?_) (fun _ => ?_) | refine vIfD_of (fun _ => ?_) (fun _ => ?_) | refine vIfQ_of (fun _ => ?_) (fun _ => ?_) | refine vIfV_of (fun _ => ?_) (fun _ => ?_) | refine And.intro (by omega) ?_ | refine drawn_q ?_ | fail)
    exact ⟨⟨_, rfl, ⟨fun h => by omega, fun h => by rw [hf0] at h; cases h⟩⟩, hl1⟩
theorem containsF_c (v : Value) (l : List Int) (f : FuncId) (p : Int → Bool) (hf : ∀ (x : Int) (w : World), FnC Try.prog f #[.int .i64 x] w fun v w' => v = .bool (p x) ∧ Later w w') (w : World) (h : Sl w v (l.map i64v)) :
    FnC Try.prog 73 #[v, .func (.func f) #[] #[]] w fun r w' => r = .bool (l.any p) ∧ Later w w' := by
  refine enter73 _ _ ?_
  unfold B73
  repeat' (first | (simp (disch := omega) only [push_cast, ↓reduceIte, Nat.reduceEqDiff, Int.reduceToNat, Nat.reducePow, Int.reducePow, Int.reduceNeg, Nat.reduceMul, Int.reduceMul, Int.reduceAdd, Int.reduceSub, Nat.reduceAdd, Nat.reduceSub, Nat.reduceLeDiff, Int.reduceLT, Int.reduceLE, Int.reduceEq, Int.reduceMod, Int.reduceDiv, reduceCtorEq, not_true_eq_false, not_false_eq_true]) | refine vIfE_of (fun _ => ?_) (fun _ => ?_) | refine vIfD_of (fun _ => ?_) (fun _ => ?_) | refine vIfQ_of (fun _ => ?_) (fun _ => ?_) | refine vIfV_of (fun _ => ?_) (fun _ => ?_) | refine And.intro (by omega) ?_ | refine drawn_q ?_ | fail)
  refine (indexF_c v l f p hf w h).mono ?_
  rintro _ w1 ⟨⟨k, rfl, hk⟩, hl1⟩
  have e : decide (0 ≤ k) = l.any p := by rw [Bool.eq_iff_iff, decide_eq_true_eq]; exact hk
  repeat' (first | (simp (disch := omega) only [push_cast, ↓reduceIte, Nat.reduceEqDiff, Int.reduceToNat, Nat.reducePow, Int.reducePow, Int.reduceNeg, Nat.reduceMul, Int.reduceMul, Int.reduceAdd, Int.reduceSub, Nat.reduceAdd, Nat.reduceSub, Nat.reduceLeDiff, Int.reduceLT, Int.reduceLE, Int.reduceEq, Int.reduceMod, Int.reduceDiv, reduceCtorEq, not_true_eq_false, not_false_eq_true, e]) | refine vIfE_of (fun _ => ?_) (fun _ => ?_) | refine vIfD_of (fun _ => ?_) (fun _ => ?_) | refine vIfQ_of (fun _ => ?_) (fun _ => ?_) | refine vIfV_of (fun _ => ?_) (fun _ => ?_) | refine And.intro (by omega) ?_ | refine drawn_q ?_ | fail)
  exact hl1
def out_ (x : Int) : Bool := decide (x < 0) || decide (65536 ≤ x)
theorem ofF_c (x : Int) (w : World) : FnC Try.prog 74 #[.int .i64 x] w fun v w' => v = .bool (out_ x) ∧ Later w w' := by
  refine enter74 _ ?_
  unfold B74
  by_cases h0 : x < 0
  · have e : out_ x = true := by simp [out_, h0]
    rw [e]
    repeat' (first | (simp (disch := omega) only [push_cast, ↓reduceIte, Nat.reduceEqDiff, Int.reduceToNat, Nat.reducePow, Int.reducePow, Int.reduceNeg, Nat.reduceMul, Int.reduceMul, Int.reduceAdd, Int.reduceSub, Nat.reduceAdd, Nat.reduceSub, Nat.reduceLeDiff, Int.reduceLT, Int.reduceLE, Int.reduceEq, Int.reduceMod, Int.reduceDiv, reduceCtorEq, not_true_eq_false, not_false_eq_true]) | refine vIfE_of (fun _ => ?_) (fun _ => ?_) | refine vIfD_of (fun _ => ?_) (fun _ => ?_) | refine vIfQ_of (fun _ => ?_) (fun _ => ?_) | refine vIfV_of (fun _ => ?_) (fun _ => ?_) | refine And.intro (by omega) ?_ | refine drawn_q ?_ | fail)
    exact Later.refl _
  · have e : out_ x = decide (65536 ≤ x) := by simp [out_, h0]
    rw [e]
    repeat' (first | (simp (disch := omega) only [push_cast, ↓reduceIte, Nat.reduceEqDiff, Int.reduceToNat, Nat.reducePow, Int.reducePow, Int.reduceNeg, Nat.reduceMul, Int.reduceMul, Int.reduceAdd, Int.reduceSub, Nat.reduceAdd, Nat.reduceSub, Nat.reduceLeDiff, Int.reduceLT, Int.reduceLE, Int.reduceEq, Int.reduceMod, Int.reduceDiv, reduceCtorEq, not_true_eq_false, not_false_eq_true]) | refine vIfE_of (fun _ => ?_) (fun _ => ?_) | refine vIfD_of (fun _ => ?_) (fun _ => ?_) | refine vIfQ_of (fun _ => ?_) (fun _ => ?_) | refine vIfV_of (fun _ => ?_) (fun _ => ?_) | refine And.intro (by omega) ?_ | refine drawn_q ?_ | fail)
    exact Later.refl _
theorem clone_c (v : Value) (l : List Int) (w : World) (h : Sl w v (l.map i64v)) (hl : l.length ≤ 1000000) : FnC Try.prog 75 #[v] w fun r w' => OwnI w' w.heap.size 3 r l ∧ Later w w' := by
  have h0 := h
  obtain ⟨o, c, rfl, g1, g2, h, g3⟩ := h.openM
  refine enter75 _ ?_
  unfold B75
  cases o with
  | none =>
    obtain ⟨rfl, _⟩ := g3 rfl
    repeat' (first | (simp (disch := omega) only [push_cast, ↓reduceIte, Nat.reduceEqDiff, Int.reduceToNat, Nat.reducePow, Int.reducePow, Int.reduceNeg, Nat.reduceMul, Int.reduceMul, Int.reduceAdd, Int.reduceSub, Nat.reduceAdd, Nat.reduceSub, Nat.reduceLeDiff, Int.reduceLT, Int.reduceLE, Int.reduceEq, Int.reduceMod, Int.reduceDiv, reduceCtorEq, not_true_eq_false, not_false_eq_true]) | refine vIfE_of (fun _ => ?_) (fun _ => ?_) | refine vIfD_of (fun _ => ?_) (fun _ => ?_) | refine vIfQ_of (fun _ => ?_) (fun _ => ?_) | refine vIfV_of (fun _ => ?_) (fun _ => ?_) | refine And.intro (by omega) ?_ | refine drawn_q ?_ | fail)
    have := OwnI.nil w w.heap.size 3
    first | exact ⟨this, Later.refl _⟩ | exact Later.refl _
  | some a =>
    repeat' (first | (simp (disch := omega) only [push_cast, ↓reduceIte, Nat.reduceEqDiff, Int.reduceToNat, Nat.reducePow, Int.reducePow, Int.reduceNeg, Nat.reduceMul, Int.reduceMul, Int.reduceAdd, Int.reduceSub, Nat.reduceAdd, Nat.reduceSub, Nat.reduceLeDiff, Int.reduceLT, Int.reduceLE, Int.reduceEq, Int.reduceMod, Int.reduceDiv, reduceCtorEq, not_true_eq_false, not_false_eq_true]) | refine vIfE_of (fun _ => ?_) (fun _ => ?_) | refine vIfD_of (fun _ => ?_) (fun _ => ?_) | refine vIfQ_of (fun _ => ?_) (fun _ => ?_) | refine vIfV_of (fun _ => ?_) (fun _ => ?_) | refine And.intro (by omega) ?_ | refine drawn_q ?_ | fail)
    have la := later_alloc w (.cells #[] 3)
    have hown : (w.alloc (.cells #[] 3)).ownsRow w.heap.size 3 1 (.slice (some ⟨w.heap.size, 0, none⟩) 0 0) 0 [] := own_lit w [] _ 1 0 rfl (by unfold maxLen; omega) (Nat.le_refl _)
    have hx : SlN (w.alloc (.cells #[] 3)) 1 (.slice (some a) l.length c) l.length (l.map i64v) := by
      have := h.later la
      unfold Sl at this
      rwa [List.length_map] at this
    refine vAppend_own Try.underlying49 ti3 rfl (by decide) hown hx (by intro u hu; obtain ⟨x, _, rfl⟩ := List.mem_map.1 hu; rfl) (by unfold maxLen; omega) (by omega) (by simp) ?_
    intro v' w' ho hg _
    have hl' := la.appended hown (Nat.le_refl _) hg
    have ho' : OwnI w' w.heap.size 3 v' l := by
      unfold OwnI
      simpa using ho
    repeat' (first | (simp (disch := omega) only [push_cast, ↓reduceIte, Nat.reduceEqDiff, Int.reduceToNat, Nat.reducePow, Int.reducePow, Int.reduceNeg, Nat.reduceMul, Int.reduceMul, Int.reduceAdd, Int.reduceSub, Nat.reduceAdd, Nat.reduceSub, Nat.reduceLeDiff, Int.reduceLT, Int.reduceLE, Int.reduceEq, Int.reduceMod, Int.reduceDiv, reduceCtorEq, not_true_eq_false, not_false_eq_true]) | refine vIfE_of (fun _ => ?_) (fun _ => ?_) | refine vIfD_of (fun _ => ?_) (fun _ => ?_) | refine vIfQ_of (fun _ => ?_) (fun _ => ?_) | refine vIfV_of (fun _ => ?_) (fun _ => ?_) | refine And.intro (by omega) ?_ | refine drawn_q ?_ | fail)
    first | exact ⟨ho', hl'⟩ | exact hl'
theorem rising_c (v : Value) (l : List Int) (w : World) (h : Sl w v (l.map i64v)) (hl : l.length ≤ 100000) : FnC Try.prog 46 #[v] w fun r w' => (∃ m, OwnI w' w.heap.size 3 r m ∧ Asc m ∧ (∀ x, x ∈ m ↔ x ∈ l) ∧ m.length ≤ l.length) ∧ Later w w' := by
  have h0 := h
  obtain ⟨o, c, rfl, g1, g2, h, g3⟩ := h.openM
  refine enter46 _ ?_
  unfold B46
  repeat' (first | (simp (disch := omega) only [push_cast, ↓reduceIte, Nat.reduceEqDiff, Int.reduceToNat, Nat.reducePow, Int.reducePow, Int.reduceNeg, Nat.reduceMul, Int.reduceMul, Int.reduceAdd, Int.reduceSub, Nat.reduceAdd, Nat.reduceSub, Nat.reduceLeDiff, Int.reduceLT, Int.reduceLE, Int.reduceEq, Int.reduceMod, Int.reduceDiv, reduceCtorEq, not_true_eq_false, not_false_eq_true]) | refine vIfE_of (fun _ => ?_) (fun _ => ?_) | refine vIfD_of (fun _ => ?_) (fun _ => ?_) | refine vIfQ_of (fun _ => ?_) (fun _ => ?_) | refine vIfV_of (fun _ => ?_) (fun _ => ?_) | refine And.intro (by omega) ?_ | refine drawn_q ?_ | fail)
  refine vc_loop W46_0 (fun p : Nat × Value => [(3, p.2), (4, .int .i64 (p.1 : Int))]) (fun p w' => p.1 ≤ l.length ∧ Later w w' ∧ ∃ m, OwnI w' w.heap.size 3 p.2 m ∧ Asc m ∧ (∀ x, x ∈ m ↔ x ∈ l.take p.1) ∧ m.length ≤ p.1) (fun p => l.length - p.1) (0, .slice none 0 0) (by decide) ?_ ?_ ?_
  · simp (disch := omega) only [push_cast, ↓reduceIte, Nat.reduceEqDiff, Int.reduceToNat, Nat.reducePow, Int.reducePow, Int.reduceNeg, Nat.reduceMul, Int.reduceMul, Int.reduceAdd, Int.reduceSub, Nat.reduceAdd, Nat.reduceSub, Nat.reduceLeDiff, Int.reduceLT, Int.reduceLE, Int.reduceEq, Int.reduceMod, Int.reduceDiv, reduceCtorEq, not_true_eq_false, not_false_eq_true]
  · exact ⟨by omega, Later.refl _, [], OwnI.nil _ _ _, asc_nil, by simp, by simp⟩
  rintro ⟨i, y⟩ uu w1 ⟨hi, hl1, m, ho, ha, hm, hml⟩
  dsimp only at hi ho hm hml
  by_cases hlt : i < l.length
  · obtain ⟨a, rfl⟩ := h.some hlt
    have hcx : ∀ w', Later w w' → w'.cell? (a.add i) = some (.int .i64 l[i]) := fun w' hl' => (h.later hl').atI hlt
    have htk : ∀ x, x ∈ l.take (i + 1) ↔ x ∈ l.take i ∨ x = l[i] := mem_take hlt
    generalize l[i] = x at *
    have c0 := hcx w1 hl1
    obtain ⟨oy, cy, rfl, hcy1, hcy2, hos, _⟩ := ho.sl.openM
    have app : ∀ (w2 : World), Later w w2 → OwnI w2 w.heap.size 3 (.slice oy m.length cy) m → ∀ K : Value → World → Prop, (∀ v' w', OwnI w' w.heap.size 3 v' (m ++ [x]) → Later w w' → K v' w') →
        vAppend Try.prog #[49, 49] 49 #[.slice oy m.length cy, .slice (some ⟨w2.heap.size, 0, none⟩) 1 1] K (w2.alloc (.cells #[.int .i64 x] 3)) := by
      intro w2 hl2 ho2 K hK
      refine vAppend_i Try.underlying49 ti3 rfl (ho2.alloc _) (lit_i _ _ _) (by omega) (by omega) (by have := hl2.size; simp; omega) ?_
      intro v' w3 ho3 _ _ hk3
      exact hK v' w3 ho3 (hk3 w (hl2.alloc _) (Nat.le_refl _))
    have done : ∀ (m' : List Int) (v' : Value) (w' : World), OwnI w' w.heap.size 3 v' m' → Later w w' → Asc m' → (∀ z, z ∈ m' ↔ z ∈ m ∨ z = x) → m'.length ≤ i + 1 → (i + 1 ≤ l.length ∧ Later w w' ∧ ∃ m, OwnI w' w.heap.size 3 v' m ∧ Asc m ∧ (∀ x, x ∈ m ↔ x ∈ l.take (i + 1)) ∧ m.length ≤ i + 1) :=
      fun m' v' w' d1 d2 d3 d4 d5 => ⟨hlt, d2, m', d1, d3, fun z => by rw [d4, hm, htk], d5⟩
    by_cases hm0 : m.length = 0
    · have em : m = [] := List.length_eq_zero_iff.1 hm0
      repeat' (first | (simp (disch := omega) only [push_cast, ↓reduceIte, Nat.reduceEqDiff, Int.reduceToNat, Nat.reducePow, Int.reducePow, Int.reduceNeg, Nat.reduceMul, Int.reduceMul, Int.reduceAdd, Int.reduceSub, Nat.reduceAdd, Nat.reduceSub, Nat.reduceLeDiff, Int.reduceLT, Int.reduceLE, Int.reduceEq, Int.reduceMod, Int.reduceDiv, reduceCtorEq, not_true_eq_false, not_false_eq_true]) | refine vIfE_of (fun _ => ?_) (fun _ => ?_) | refine vIfD_of (fun _ => ?_) (fun _ => ?_) | refine vIfQ_of (fun _ => ?_) (fun _ => ?_) | refine vIfV_of (fun _ => ?_) (fun _ => ?_) | refine And.intro (by omega) ?_ | refine drawn_q ?_ | fail)
      intro w2 hl2
      have c2 := hcx w2 (hl1.trans hl2)
      repeat' (first | (simp (disch := omega) only [push_cast, ↓reduceIte, Nat.reduceEqDiff, Int.reduceToNat, Nat.reducePow, Int.reducePow, Int.reduceNeg, Nat.reduceMul, Int.reduceMul, Int.reduceAdd, Int.reduceSub, Nat.reduceAdd, Nat.reduceSub, Nat.reduceLeDiff, Int.reduceLT, Int.reduceLE, Int.reduceEq, Int.reduceMod, Int.reduceDiv, reduceCtorEq, not_true_eq_false, not_false_eq_true, c2]) | refine vIfE_of (fun _ => ?_) (fun _ => ?_) | refine vIfD_of (fun _ => ?_) (fun _ => ?_) | refine vIfQ_of (fun _ => ?_) (fun _ => ?_) | refine vIfV_of (fun _ => ?_) (fun _ => ?_) | refine And.intro (by omega) ?_ | refine drawn_q ?_ | fail)
      refine app w2 (hl1.trans hl2) (ho.later hl2) _ ?_
      intro v' w3 ho3 hl3
      repeat' (first | (simp (disch := omega) only [push_cast, ↓reduceIte, Nat.reduceEqDiff, Int.reduceToNat, Nat.reducePow, Int.reducePow, Int.reduceNeg, Nat.reduceMul, Int.reduceMul, Int.reduceAdd, Int.reduceSub, Nat.reduceAdd, Nat.reduceSub, Nat.reduceLeDiff, Int.reduceLT, Int.reduceLE, Int.reduceEq, Int.reduceMod, Int.reduceDiv, reduceCtorEq, not_true_eq_false, not_false_eq_true]) | refine vIfE_of (fun _ => ?_) (fun _ => ?_) | refine vIfD_of (fun _ => ?_) (fun _ => ?_) | refine vIfQ_of (fun _ => ?_) (fun _ => ?_) | refine vIfV_of (fun _ => ?_) (fun _ => ?_) | refine And.intro (by omega) ?_ | refine drawn_q ?_ | fail)
      refine ⟨rfl, (i + 1, v'), by simp (disch := omega) only [push_cast, ↓reduceIte, Nat.reduceEqDiff, Int.reduceToNat, Nat.reducePow, Int.reducePow, Int.reduceNeg, Nat.reduceMul, Int.reduceMul, Int.reduceAdd, Int.reduceSub, Nat.reduceAdd, Nat.reduceSub, Nat.reduceLeDiff, Int.reduceLT, Int.reduceLE, Int.reduceEq, Int.reduceMod, Int.reduceDiv, reduceCtorEq, not_true_eq_false, not_false_eq_true], done (m ++ [x]) v' w3 ho3 hl3 ?_ (by simp) (by simp; omega), by dsimp only; omega⟩
      rw [em]; exact List.pairwise_singleton _ _
    · obtain ⟨ay, hay⟩ := hos.some (show 0 < m.length by omega)
      subst hay
      have e1 : ((m.length : Int) - 1).toNat = m.length - 1 := by omega
      have cm := hos.atI (i := m.length - 1) (by omega)
      by_cases hgt : m[m.length - 1]'(by omega) < x
      · repeat' (first | (simp (disch := omega) only [push_cast, ↓reduceIte, Nat.reduceEqDiff, Int.reduceToNat, Nat.reducePow, Int.reducePow, Int.reduceNeg, Nat.reduceMul, Int.reduceMul, Int.reduceAdd, Int.reduceSub, Nat.reduceAdd, Nat.reduceSub, Nat.reduceLeDiff, Int.reduceLT, Int.reduceLE, Int.reduceEq, Int.reduceMod, Int.reduceDiv, reduceCtorEq, not_true_eq_false, not_false_eq_true, c0, e1, cm]) | refine vIfE_of (fun _ => ?_) (fun _ => ?_) | refine vIfD_of (fun _ => ?_) (fun _ => ?_) | refine vIfQ_of (fun _ => ?_) (fun _ => ?_) | refine vIfV_of (fun _ => ?_) (fun _ => ?_) | refine And.intro (by omega) ?_ | refine drawn_q ?_ | fail)
        intro w2 hl2
        have c2 := hcx w2 (hl1.trans hl2)
        repeat' (first | (simp (disch := omega) only [push_cast, ↓reduceIte, Nat.reduceEqDiff, Int.reduceToNat, Nat.reducePow, Int.reducePow, Int.reduceNeg, Nat.reduceMul, Int.reduceMul, Int.reduceAdd, Int.reduceSub, Nat.reduceAdd, Nat.reduceSub, Nat.reduceLeDiff, Int.reduceLT, Int.reduceLE, Int.reduceEq, Int.reduceMod, Int.reduceDiv, reduceCtorEq, not_true_eq_false, not_false_eq_true, c2]) | refine vIfE_of (fun _ => ?_) (fun _ => ?_) | refine vIfD_of (fun _ => ?_) (fun _ => ?_) | refine vIfQ_of (fun _ => ?_) (fun _ => ?_) | refine vIfV_of (fun _ => ?_) (fun _ => ?_) | refine And.intro (by omega) ?_ | refine drawn_q ?_ | fail)
        refine app w2 (hl1.trans hl2) (ho.later hl2) _ ?_
        intro v' w3 ho3 hl3
        repeat' (first | (simp (disch := omega) only [push_cast, ↓reduceIte, Nat.reduceEqDiff, Int.reduceToNat, Nat.reducePow, Int.reducePow, Int.reduceNeg, Nat.reduceMul, Int.reduceMul, Int.reduceAdd, Int.reduceSub, Nat.reduceAdd, Nat.reduceSub, Nat.reduceLeDiff, Int.reduceLT, Int.reduceLE, Int.reduceEq, Int.reduceMod, Int.reduceDiv, reduceCtorEq, not_true_eq_false, not_false_eq_true]) | refine vIfE_of (fun _ => ?_) (fun _ => ?_) | refine vIfD_of (fun _ => ?_) (fun _ => ?_) | refine vIfQ_of (fun _ => ?_) (fun _ => ?_) | refine vIfV_of (fun _ => ?_) (fun _ => ?_) | refine And.intro (by omega) ?_ | refine drawn_q ?_ | fail)
        refine ⟨rfl, (i + 1, v'), by simp (disch := omega) only [push_cast, ↓reduceIte, Nat.reduceEqDiff, Int.reduceToNat, Nat.reducePow, Int.reducePow, Int.reduceNeg, Nat.reduceMul, Int.reduceMul, Int.reduceAdd, Int.reduceSub, Nat.reduceAdd, Nat.reduceSub, Nat.reduceLeDiff, Int.reduceLT, Int.reduceLE, Int.reduceEq, Int.reduceMod, Int.reduceDiv, reduceCtorEq, not_true_eq_false, not_false_eq_true], done (m ++ [x]) v' w3 ho3 hl3 ?_ (by simp) (by simp; omega), by dsimp only; omega⟩
        refine (asc_snoc _ _).2 ⟨ha, fun z hz => ?_⟩
        obtain ⟨j, hj, rfl⟩ := List.getElem_of_mem hz
        by_cases ej : j = m.length - 1
        · subst ej; exact hgt
        · have := asc_get ha (show j < m.length - 1 by omega) (by omega)
          omega
      · repeat' (first | (simp (disch := omega) only [push_cast, ↓reduceIte, Nat.reduceEqDiff, Int.reduceToNat, Nat.reducePow, Int.reducePow, Int.reduceNeg, Nat.reduceMul, Int.reduceMul, Int.reduceAdd, Int.reduceSub, Nat.reduceAdd, Nat.reduceSub, Nat.reduceLeDiff, Int.reduceLT, Int.reduceLE, Int.reduceEq, Int.reduceMod, Int.reduceDiv, reduceCtorEq, not_true_eq_false, not_false_eq_true, c0, e1, cm]) | refine vIfE_of (fun _ => ?_) (fun _ => ?_) | refine vIfD_of (fun _ => ?_) (fun _ => ?_) | refine vIfQ_of (fun _ => ?_) (fun _ => ?_) | refine vIfV_of (fun _ => ?_) (fun _ => ?_) | refine And.intro (by omega) ?_ | refine drawn_q ?_ | fail)
        intro w2 hl2
        have hl02 := hl1.trans hl2
        repeat' (first | (simp (disch := omega) only [push_cast, ↓reduceIte, Nat.reduceEqDiff, Int.reduceToNat, Nat.reducePow, Int.reducePow, Int.reduceNeg, Nat.reduceMul, Int.reduceMul, Int.reduceAdd, Int.reduceSub, Nat.reduceAdd, Nat.reduceSub, Nat.reduceLeDiff, Int.reduceLT, Int.reduceLE, Int.reduceEq, Int.reduceMod, Int.reduceDiv, reduceCtorEq, not_true_eq_false, not_false_eq_true]) | refine vIfE_of (fun _ => ?_) (fun _ => ?_) | refine vIfD_of (fun _ => ?_) (fun _ => ?_) | refine vIfQ_of (fun _ => ?_) (fun _ => ?_) | refine vIfV_of (fun _ => ?_) (fun _ => ?_) | refine And.intro (by omega) ?_ | refine drawn_q ?_ | fail)
        refine vc_loop W46_1 (fun k : Nat => [(5, .int .i64 (k : Int))]) (fun k w' => k < m.length ∧ (∀ j (hj : j < m.length), j < k → m[j] < x) ∧ Later w2 w') (fun k => m.length - k) 0 (by decide) ?_ ?_ ?_
        · simp (disch := omega) only [push_cast, ↓reduceIte, Nat.reduceEqDiff, Int.reduceToNat, Nat.reducePow, Int.reducePow, Int.reduceNeg, Nat.reduceMul, Int.reduceMul, Int.reduceAdd, Int.reduceSub, Nat.reduceAdd, Nat.reduceSub, Nat.reduceLeDiff, Int.reduceLT, Int.reduceLE, Int.reduceEq, Int.reduceMod, Int.reduceDiv, reduceCtorEq, not_true_eq_false, not_false_eq_true]
        · exact ⟨by omega, fun j _ h => by omega, Later.refl _⟩
        rintro k uu w3 ⟨hk, hlow, hl3⟩
        have hl23 := hl2.trans hl3
        have ck := (hos.later hl23).atI hk
        have c3 := hcx w3 (hl1.trans hl23)
        by_cases hkx : m[k] < x
        · have hk1 : k + 1 < m.length := by
            by_cases e : k = m.length - 1
            · subst e; exact absurd hkx hgt
            · omega
          repeat' (first | (simp (disch := omega) only [push_cast, ↓reduceIte, Nat.reduceEqDiff, Int.reduceToNat, Nat.reducePow, Int.reducePow, Int.reduceNeg, Nat.reduceMul, Int.reduceMul, Int.reduceAdd, Int.reduceSub, Nat.reduceAdd, Nat.reduceSub, Nat.reduceLeDiff, Int.reduceLT, Int.reduceLE, Int.reduceEq, Int.reduceMod, Int.reduceDiv, reduceCtorEq, not_true_eq_false, not_false_eq_true, ck, c3]) | refine vIfE_of (fun _ => ?_) (fun _ => ?_) | refine vIfD_of (fun _ => ?_) (fun _ => ?_) | refine vIfQ_of (fun _ => ?_) (fun _ => ?_) | refine vIfV_of (fun _ => ?_) (fun _ => ?_) | refine And.intro (by omega) ?_ | refine drawn_q ?_ | fail)
          intro w4 hl4
          repeat' (first | (simp (disch := omega) only [push_cast, ↓reduceIte, Nat.reduceEqDiff, Int.reduceToNat, Nat.reducePow, Int.reducePow, Int.reduceNeg, Nat.reduceMul, Int.reduceMul, Int.reduceAdd, Int.reduceSub, Nat.reduceAdd, Nat.reduceSub, Nat.reduceLeDiff, Int.reduceLT, Int.reduceLE, Int.reduceEq, Int.reduceMod, Int.reduceDiv, reduceCtorEq, not_true_eq_false, not_false_eq_true]) | refine vIfE_of (fun _ => ?_) (fun _ => ?_) | refine vIfD_of (fun _ => ?_) (fun _ => ?_) | refine vIfQ_of (fun _ => ?_) (fun _ => ?_) | refine vIfV_of (fun _ => ?_) (fun _ => ?_) | refine And.intro (by omega) ?_ | refine drawn_q ?_ | fail)
          refine ⟨rfl, k + 1, by simp (disch := omega) only [push_cast, ↓reduceIte, Nat.reduceEqDiff, Int.reduceToNat, Nat.reducePow, Int.reducePow, Int.reduceNeg, Nat.reduceMul, Int.reduceMul, Int.reduceAdd, Int.reduceSub, Nat.reduceAdd, Nat.reduceSub, Nat.reduceLeDiff, Int.reduceLT, Int.reduceLE, Int.reduceEq, Int.reduceMod, Int.reduceDiv, reduceCtorEq, not_true_eq_false, not_false_eq_true], ⟨hk1, fun j hj h => ?_, hl3.trans hl4⟩, by dsimp only; omega⟩
          by_cases e : j = k
          · subst e; exact hkx
          · exact hlow j hj (by omega)
        · repeat' (first | (simp (disch := omega) only [push_cast, ↓reduceIte, Nat.reduceEqDiff, Int.reduceToNat, Nat.reducePow, Int.reducePow, Int.reduceNeg, Nat.reduceMul, Int.reduceMul, Int.reduceAdd, Int.reduceSub, Nat.reduceAdd, Nat.reduceSub, Nat.reduceLeDiff, Int.reduceLT, Int.reduceLE, Int.reduceEq, Int.reduceMod, Int.reduceDiv, reduceCtorEq, not_true_eq_false, not_false_eq_true, ck, c3]) | refine vIfE_of (fun _ => ?_) (fun _ => ?_) | refine vIfD_of (fun _ => ?_) (fun _ => ?_) | refine vIfQ_of (fun _ => ?_) (fun _ => ?_) | refine vIfV_of (fun _ => ?_) (fun _ => ?_) | refine And.intro (by omega) ?_ | refine drawn_q ?_ | fail)
          intro w4 hl4
          have hl24 := hl23.trans hl4
          have hl04 := hl1.trans hl24
          have ck4 := (hos.later hl24).atI hk
          have c4 := hcx w4 hl04
          have hkk : (k : Int) ≠ (m.length : Int) := by omega
          by_cases hne : m[k] = x
          · repeat' (first | (simp (disch := omega) only [push_cast, ↓reduceIte, Nat.reduceEqDiff, Int.reduceToNat, Nat.reducePow, Int.reducePow, Int.reduceNeg, Nat.reduceMul, Int.reduceMul, Int.reduceAdd, Int.reduceSub, Nat.reduceAdd, Nat.reduceSub, Nat.reduceLeDiff, Int.reduceLT, Int.reduceLE, Int.reduceEq, Int.reduceMod, Int.reduceDiv, reduceCtorEq, not_true_eq_false, not_false_eq_true, ck4, c4]) | refine vIfE_of (fun _ => ?_) (fun _ => ?_) | refine vIfD_of (fun _ => ?_) (fun _ => ?_) | refine vIfQ_of (fun _ => ?_) (fun _ => ?_) | refine vIfV_of (fun _ => ?_) (fun _ => ?_) | refine And.intro (by omega) ?_ | refine drawn_q ?_ | fail)
            intro w5 hl5
            repeat' (first | (simp (disch := omega) only [push_cast, ↓reduceIte, Nat.reduceEqDiff, Int.reduceToNat, Nat.reducePow, Int.reducePow, Int.reduceNeg, Nat.reduceMul, Int.reduceMul, Int.reduceAdd, Int.reduceSub, Nat.reduceAdd, Nat.reduceSub, Nat.reduceLeDiff, Int.reduceLT, Int.reduceLE, Int.reduceEq, Int.reduceMod, Int.reduceDiv, reduceCtorEq, not_true_eq_false, not_false_eq_true]) | refine vIfE_of (fun _ => ?_) (fun _ => ?_) | refine vIfD_of (fun _ => ?_) (fun _ => ?_) | refine vIfQ_of (fun _ => ?_) (fun _ => ?_) | refine vIfV_of (fun _ => ?_) (fun _ => ?_) | refine And.intro (by omega) ?_ | refine drawn_q ?_ | fail)
            refine ⟨rfl, (i + 1, _), by simp (disch := omega) only [push_cast, ↓reduceIte, Nat.reduceEqDiff, Int.reduceToNat, Nat.reducePow, Int.reducePow, Int.reduceNeg, Nat.reduceMul, Int.reduceMul, Int.reduceAdd, Int.reduceSub, Nat.reduceAdd, Nat.reduceSub, Nat.reduceLeDiff, Int.reduceLT, Int.reduceLE, Int.reduceEq, Int.reduceMod, Int.reduceDiv, reduceCtorEq, not_true_eq_false, not_false_eq_true], done m _ w5 (ho.later (hl24.trans hl5)) (hl04.trans hl5) ha (fun z => ⟨.inl, ?_⟩) (by omega), by dsimp only; omega⟩
            rintro (h | rfl)
            · exact h
            · rw [← hne]; exact List.getElem_mem _
          · repeat' (first | (simp (disch := omega) only [push_cast, ↓reduceIte, Nat.reduceEqDiff, Int.reduceToNat, Nat.reducePow, Int.reducePow, Int.reduceNeg, Nat.reduceMul, Int.reduceMul, Int.reduceAdd, Int.reduceSub, Nat.reduceAdd, Nat.reduceSub, Nat.reduceLeDiff, Int.reduceLT, Int.reduceLE, Int.reduceEq, Int.reduceMod, Int.reduceDiv, reduceCtorEq, not_true_eq_false, not_false_eq_true, ck4, c4]) | refine vIfE_of (fun _ => ?_) (fun _ => ?_) | refine vIfD_of (fun _ => ?_) (fun _ => ?_) | refine vIfQ_of (fun _ => ?_) (fun _ => ?_) | refine vIfV_of (fun _ => ?_) (fun _ => ?_) | refine And.intro (by omega) ?_ | refine drawn_q ?_ | fail)
            intro w5 hl5
            have hl25 := hl24.trans hl5
            have hl05 := hl1.trans hl25
            repeat' (first | (simp (disch := omega) only [push_cast, ↓reduceIte, Nat.reduceEqDiff, Int.reduceToNat, Nat.reducePow, Int.reducePow, Int.reduceNeg, Nat.reduceMul, Int.reduceMul, Int.reduceAdd, Int.reduceSub, Nat.reduceAdd, Nat.reduceSub, Nat.reduceLeDiff, Int.reduceLT, Int.reduceLE, Int.reduceEq, Int.reduceMod, Int.reduceDiv, reduceCtorEq, not_true_eq_false, not_false_eq_true]) | refine vIfE_of (fun _ => ?_) (fun _ => ?_) | refine vIfD_of (fun _ => ?_) (fun _ => ?_) | refine vIfQ_of (fun _ => ?_) (fun _ => ?_) | refine vIfV_of (fun _ => ?_) (fun _ => ?_) | refine And.intro (by omega) ?_ | refine drawn_q ?_ | fail)
            have la := later_alloc w5 (.cells #[] 3)
            have ho5 := OwnI.lit0 w5 3 (B := w5.heap.size) (Nat.le_refl _)
            refine vAppend_is Try.underlying49 ti3 rfl ho5 (sl_upto ((hos.later hl25).later la) (k := k) (by omega)) (by simp; omega) (by omega) (by simp) ?_
            intro v6 w6 ho6 _ _ hk6
            have hl6 := hk6 w5 la (Nat.le_refl _)
            have c6 := hcx w6 (hl05.trans hl6)
            rw [List.nil_append] at ho6
            have hl6l : (m.take k).length = k := by simp; omega
            repeat' (first | (simp (disch := omega) only [push_cast, ↓reduceIte, Nat.reduceEqDiff, Int.reduceToNat, Nat.reducePow, Int.reducePow, Int.reduceNeg, Nat.reduceMul, Int.reduceMul, Int.reduceAdd, Int.reduceSub, Nat.reduceAdd, Nat.reduceSub, Nat.reduceLeDiff, Int.reduceLT, Int.reduceLE, Int.reduceEq, Int.reduceMod, Int.reduceDiv, reduceCtorEq, not_true_eq_false, not_false_eq_true, c6]) | refine vIfE_of (fun _ => ?_) (fun _ => ?_) | refine vIfD_of (fun _ => ?_) (fun _ => ?_) | refine vIfQ_of (fun _ => ?_) (fun _ => ?_) | refine vIfV_of (fun _ => ?_) (fun _ => ?_) | refine And.intro (by omega) ?_ | refine drawn_q ?_ | fail)
            refine vAppend_i Try.underlying49 ti3 rfl (ho6.alloc _) (lit_i _ _ _) (by omega) (by omega) (by have := hl6.size; simp; omega) ?_
            intro v7 w7 ho7 _ _ hk7
            have hl7 := hk7 w5 (hl6.alloc _) (Nat.le_refl _)
            repeat' (first | (simp (disch := omega) only [push_cast, ↓reduceIte, Nat.reduceEqDiff, Int.reduceToNat, Nat.reducePow, Int.reducePow, Int.reduceNeg, Nat.reduceMul, Int.reduceMul, Int.reduceAdd, Int.reduceSub, Nat.reduceAdd, Nat.reduceSub, Nat.reduceLeDiff, Int.reduceLT, Int.reduceLE, Int.reduceEq, Int.reduceMod, Int.reduceDiv, reduceCtorEq, not_true_eq_false, not_false_eq_true]) | refine vIfE_of (fun _ => ?_) (fun _ => ?_) | refine vIfD_of (fun _ => ?_) (fun _ => ?_) | refine vIfQ_of (fun _ => ?_) (fun _ => ?_) | refine vIfV_of (fun _ => ?_) (fun _ => ?_) | refine And.intro (by omega) ?_ | refine drawn_q ?_ | fail)
            have hto : ((k : Int)).toNat = k := by omega
            refine vAppend_is Try.underlying49 ti3 rfl ho7 (sl_from ((hos.later hl25).later hl7) (k := k) (by omega)) (by simp; omega) (by omega) hl7.size ?_
            intro v8 w8 ho8 _ _ hk8
            have hl8 := hk8 w5 hl7 (Nat.le_refl _)
            repeat' (first | (simp (disch := omega) only [push_cast, ↓reduceIte, Nat.reduceEqDiff, Int.reduceToNat, Nat.reducePow, Int.reducePow, Int.reduceNeg, Nat.reduceMul, Int.reduceMul, Int.reduceAdd, Int.reduceSub, Nat.reduceAdd, Nat.reduceSub, Nat.reduceLeDiff, Int.reduceLT, Int.reduceLE, Int.reduceEq, Int.reduceMod, Int.reduceDiv, reduceCtorEq, not_true_eq_false, not_false_eq_true]) | refine vIfE_of (fun _ => ?_) (fun _ => ?_) | refine vIfD_of (fun _ => ?_) (fun _ => ?_) | refine vIfQ_of (fun _ => ?_) (fun _ => ?_) | refine vIfV_of (fun _ => ?_) (fun _ => ?_) | refine And.intro (by omega) ?_ | refine drawn_q ?_ | fail)
            refine ⟨rfl, (i + 1, v8), by simp (disch := omega) only [push_cast, ↓reduceIte, Nat.reduceEqDiff, Int.reduceToNat, Nat.reducePow, Int.reducePow, Int.reduceNeg, Nat.reduceMul, Int.reduceMul, Int.reduceAdd, Int.reduceSub, Nat.reduceAdd, Nat.reduceSub, Nat.reduceLeDiff, Int.reduceLT, Int.reduceLE, Int.reduceEq, Int.reduceMod, Int.reduceDiv, reduceCtorEq, not_true_eq_false, not_false_eq_true], done _ v8 w8 (ho8.base hl05.size) (hl05.trans hl8) (asc_insert ha hlow fun j hj h => ?_) (fun z => mem_insert m k x z) (by rw [insert_len m (by omega)]; omega), by dsimp only; omega⟩
            by_cases e : j = k
            · subst e; omega
            · have := asc_get ha (show k < j by omega) hj
              omega
  · have e : i = l.length := by omega
    subst e
    rw [List.take_length] at hm
    repeat' (first | (simp (disch := omega) only [push_cast, ↓reduceIte, Nat.reduceEqDiff, Int.reduceToNat, Nat.reducePow, Int.reducePow, Int.reduceNeg, Nat.reduceMul, Int.reduceMul, Int.reduceAdd, Int.reduceSub, Nat.reduceAdd, Nat.reduceSub, Nat.reduceLeDiff, Int.reduceLT, Int.reduceLE, Int.reduceEq, Int.reduceMod, Int.reduceDiv, reduceCtorEq, not_true_eq_false, not_false_eq_true]) | refine vIfE_of (fun _ => ?_) (fun _ => ?_) | refine vIfD_of (fun _ => ?_) (fun _ => ?_) | refine vIfQ_of (fun _ => ?_) (fun _ => ?_) | refine vIfV_of (fun _ => ?_) (fun _ => ?_) | refine And.intro (by omega) ?_ | refine drawn_q ?_ | fail)
    have hfin : ∃ m, OwnI w1 w.heap.size 3 y m ∧ Asc m ∧ (∀ x, x ∈ m ↔ x ∈ l) ∧ m.length ≤ l.length := ⟨m, ho, ha, hm, hml⟩
    first | exact ⟨hfin, hl1⟩ | exact hl1
/-- What either Of answers. -/
def OfE (l : List Int) : Int := if l.any out_ = true then 41 else 0
def OfR (w : World) (B : Nat) (r : Value) (l : List Int) : Prop := ∃ x s, r = .tuple #[x, .int .i64 (OfE l)] ∧ OwnP w B 63 x s ∧ ((OfE l ≠ 0 ∧ s = []) ∨ (OfE l = 0 ∧ Rt (-1) s ∧ (∀ x, has s x = true ↔ x ∈ l) ∧ ∃ m, Asc m ∧ (∀ x, x ∈ m ↔ x ∈ l) ∧ s = setOf m))
theorem out_iff {l : List Int} : l.any out_ = false ↔ ∀ x ∈ l, 0 ≤ x ∧ x < 65536 := by
  rw [List.any_eq_false]
  constructor
  · intro h x hx
    have := h x hx
    simp [out_] at this
    omega
  · intro h x hx
    have := h x hx
    simp [out_]; omega
theorem of_ok {w : World} {B : Nat} {x : Value} {l m : List Int} (h : l.any out_ = false) (hm : Asc m) (hmem : ∀ x, x ∈ m ↔ x ∈ l) (ho : OwnP w B 63 x (setOf m)) : OfR w B (.tuple #[x, .int .i64 0]) l := by
  have e : OfE l = 0 := by unfold OfE; rw [h]; rfl
  obtain ⟨h1, h2, _⟩ := setOf_spec hm fun x hx => out_iff.1 h x ((hmem x).1 hx)
  exact ⟨x, _, by rw [e], ho, .inr ⟨e, h1, fun x => by rw [h2, hmem], m, hm, hmem, rfl⟩⟩
theorem of_bad {w : World} {B : Nat} {l : List Int} (h : l.any out_ = true) : OfR w B (.tuple #[.slice none 0 0, .int .i64 41]) l := by
  have e : OfE l = 41 := by unfold OfE; rw [if_pos h]
  exact ⟨_, [], by rw [e], OwnP.nil _ _ _, .inl ⟨by rw [e]; decide, rfl⟩⟩
/-- One answer. -/
theorem OfR.one {w w' : World} {B B' : Nat} {x x' : Value} {l : List Int} {s s' : S} (h : (OfE l ≠ 0 ∧ s = []) ∨ (OfE l = 0 ∧ Rt (-1) s ∧ (∀ x, has s x = true ↔ x ∈ l) ∧ ∃ m, Asc m ∧ (∀ x, x ∈ m ↔ x ∈ l) ∧ s = setOf m)) (h' : (OfE l ≠ 0 ∧ s' = []) ∨ (OfE l = 0 ∧ Rt (-1) s' ∧ (∀ x, has s' x = true ↔ x ∈ l) ∧ ∃ m, Asc m ∧ (∀ x, x ∈ m ↔ x ∈ l) ∧ s' = setOf m)) : s = s' := by
  rcases h with ⟨h1, rfl⟩ | ⟨h1, h2, h3, _⟩ <;> rcases h' with ⟨g1, rfl⟩ | ⟨g1, g2, g3, _⟩
  · rfl
  · exact absurd g1 h1
  · exact absurd h1 g1
  · exact ext h2 g2 fun x => bool_eq (by rw [h3, g3])
theorem rof_c (v : Value) (l : List Int) (w : World) (h : Sl w v (l.map i64v)) (hl : l.length ≤ 100000) : FnC Try.prog 43 #[v] w fun r w' => OfR w' w.heap.size r l ∧ Later w w' := by
  have h0 := h
  obtain ⟨o, c, rfl, g1, g2, h, g3⟩ := h.openM
  refine enter43 _ ?_
  unfold B43
  repeat' (first | (simp (disch := omega) only [push_cast, ↓reduceIte, Nat.reduceEqDiff, Int.reduceToNat, Nat.reducePow, Int.reducePow, Int.reduceNeg, Nat.reduceMul, Int.reduceMul, Int.reduceAdd, Int.reduceSub, Nat.reduceAdd, Nat.reduceSub, Nat.reduceLeDiff, Int.reduceLT, Int.reduceLE, Int.reduceEq, Int.reduceMod, Int.reduceDiv, reduceCtorEq, not_true_eq_false, not_false_eq_true]) | refine vIfE_of (fun _ => ?_) (fun _ => ?_) | refine vIfD_of (fun _ => ?_) (fun _ => ?_) | refine vIfQ_of (fun _ => ?_) (fun _ => ?_) | refine vIfV_of (fun _ => ?_) (fun _ => ?_) | refine And.intro (by omega) ?_ | refine drawn_q ?_ | fail)
  refine vc_loop W43_0 (fun i : Nat => [(4, .int .i64 (i : Int))]) (fun i w' => i ≤ l.length ∧ Later w w' ∧ (l.take i).any out_ = false) (fun i => l.length - i) 0 (by decide) ?_ ?_ ?_
  · simp (disch := omega) only [push_cast, ↓reduceIte, Nat.reduceEqDiff, Int.reduceToNat, Nat.reducePow, Int.reducePow, Int.reduceNeg, Nat.reduceMul, Int.reduceMul, Int.reduceAdd, Int.reduceSub, Nat.reduceAdd, Nat.reduceSub, Nat.reduceLeDiff, Int.reduceLT, Int.reduceLE, Int.reduceEq, Int.reduceMod, Int.reduceDiv, reduceCtorEq, not_true_eq_false, not_false_eq_true]
  · exact ⟨by omega, Later.refl _, rfl⟩
  rintro i uu w1 ⟨hi, hl1, hf0⟩
  by_cases hlt : i < l.length
  · obtain ⟨a, rfl⟩ := h.some hlt
    have c0 := (h.later hl1).atI hlt
    have hsn : (l.take (i + 1)).any out_ = out_ l[i] := by rw [take_snoc l i hlt, List.any_append, hf0]; simp
    have hyes : out_ l[i] = true → l.any out_ = true := fun hp => List.any_eq_true.2 ⟨_, List.getElem_mem _, hp⟩
    generalize l[i] = x at *
    by_cases hp : x < 0 ∨ 65536 ≤ x
    · have ho : out_ x = true := by simp [out_]; omega
      have hbad := of_bad (w := w1) (B := w.heap.size) (hyes ho)
      repeat' (first | (simp (disch := omega) only [push_cast, ↓reduceIte, Nat.reduceEqDiff, Int.reduceToNat, Nat.reducePow, Int.reducePow, Int.reduceNeg, Nat.reduceMul, Int.reduceMul, Int.reduceAdd, Int.reduceSub, Nat.reduceAdd, Nat.reduceSub, Nat.reduceLeDiff, Int.reduceLT, Int.reduceLE, Int.reduceEq, Int.reduceMod, Int.reduceDiv, reduceCtorEq, not_true_eq_false, not_false_eq_true, c0]) | refine vIfE_of (fun _ => ?_) (fun _ => ?_) | refine vIfD_of (fun _ => ?_) (fun _ => ?_) | refine vIfQ_of (fun _ => ?_) (fun _ => ?_) | refine vIfV_of (fun _ => ?_) (fun _ => ?_) | refine And.intro (by omega) ?_ | refine drawn_q ?_ | fail)
      all_goals first
        | exact ⟨hbad, hl1⟩
        | omega
    · have ho : out_ x = false := by simp [out_]; omega
      repeat' (first | (simp (disch := omega) only [push_cast, ↓reduceIte, Nat.reduceEqDiff, Int.reduceToNat, Nat.reducePow, Int.reducePow, Int.reduceNeg, Nat.reduceMul, Int.reduceMul, Int.reduceAdd, Int.reduceSub, Nat.reduceAdd, Nat.reduceSub, Nat.reduceLeDiff, Int.reduceLT, Int.reduceLE, Int.reduceEq, Int.reduceMod, Int.reduceDiv, reduceCtorEq, not_true_eq_false, not_false_eq_true, c0]) | refine vIfE_of (fun _ => ?_) (fun _ => ?_) | refine vIfD_of (fun _ => ?_) (fun _ => ?_) | refine vIfQ_of (fun _ => ?_) (fun _ => ?_) | refine vIfV_of (fun _ => ?_) (fun _ => ?_) | refine And.intro (by omega) ?_ | refine drawn_q ?_ | fail)
      exact ⟨rfl, i + 1, by simp (disch := omega) only [push_cast, ↓reduceIte, Nat.reduceEqDiff, Int.reduceToNat, Nat.reducePow, Int.reducePow, Int.reduceNeg, Nat.reduceMul, Int.reduceMul, Int.reduceAdd, Int.reduceSub, Nat.reduceAdd, Nat.reduceSub, Nat.reduceLeDiff, Int.reduceLT, Int.reduceLE, Int.reduceEq, Int.reduceMod, Int.reduceDiv, reduceCtorEq, not_true_eq_false, not_false_eq_true], ⟨by omega, hl1, by rw [hsn, ho]⟩, by dsimp only; omega⟩
  · have e : i = l.length := by omega
    subst e
    rw [List.take_length] at hf0
    repeat' (first | (simp (disch := omega) only [push_cast, ↓reduceIte, Nat.reduceEqDiff, Int.reduceToNat, Nat.reducePow, Int.reducePow, Int.reduceNeg, Nat.reduceMul, Int.reduceMul, Int.reduceAdd, Int.reduceSub, Nat.reduceAdd, Nat.reduceSub, Nat.reduceLeDiff, Int.reduceLT, Int.reduceLE, Int.reduceEq, Int.reduceMod, Int.reduceDiv, reduceCtorEq, not_true_eq_false, not_false_eq_true]) | refine vIfE_of (fun _ => ?_) (fun _ => ?_) | refine vIfD_of (fun _ => ?_) (fun _ => ?_) | refine vIfQ_of (fun _ => ?_) (fun _ => ?_) | refine vIfV_of (fun _ => ?_) (fun _ => ?_) | refine And.intro (by omega) ?_ | refine drawn_q ?_ | fail)
    refine (rising_c _ l w1 (h0.later hl1) hl).mono ?_
    rintro v2 w2 ⟨⟨m, hm1, hm2, hm3, hm4⟩, hl2⟩
    repeat' (first | (simp (disch := omega) only [push_cast, ↓reduceIte, Nat.reduceEqDiff, Int.reduceToNat, Nat.reducePow, Int.reducePow, Int.reduceNeg, Nat.reduceMul, Int.reduceMul, Int.reduceAdd, Int.reduceSub, Nat.reduceAdd, Nat.reduceSub, Nat.reduceLeDiff, Int.reduceLT, Int.reduceLE, Int.reduceEq, Int.reduceMod, Int.reduceDiv, reduceCtorEq, not_true_eq_false, not_false_eq_true]) | refine vIfE_of (fun _ => ?_) (fun _ => ?_) | refine vIfD_of (fun _ => ?_) (fun _ => ?_) | refine vIfQ_of (fun _ => ?_) (fun _ => ?_) | refine vIfV_of (fun _ => ?_) (fun _ => ?_) | refine And.intro (by omega) ?_ | refine drawn_q ?_ | fail)
    refine (set_c _ m w2 hm1.sl (by omega) (fun x hx => by have := out_iff.1 hf0 x ((hm3 x).1 hx); omega)).mono ?_
    rintro v3 w3 ⟨hs, hl3⟩
    repeat' (first | (simp (disch := omega) only [push_cast, ↓reduceIte, Nat.reduceEqDiff, Int.reduceToNat, Nat.reducePow, Int.reducePow, Int.reduceNeg, Nat.reduceMul, Int.reduceMul, Int.reduceAdd, Int.reduceSub, Nat.reduceAdd, Nat.reduceSub, Nat.reduceLeDiff, Int.reduceLT, Int.reduceLE, Int.reduceEq, Int.reduceMod, Int.reduceDiv, reduceCtorEq, not_true_eq_false, not_false_eq_true]) | refine vIfE_of (fun _ => ?_) (fun _ => ?_) | refine vIfD_of (fun _ => ?_) (fun _ => ?_) | refine vIfQ_of (fun _ => ?_) (fun _ => ?_) | refine vIfV_of (fun _ => ?_) (fun _ => ?_) | refine And.intro (by omega) ?_ | refine drawn_q ?_ | fail)
    have hok := of_ok hf0 hm2 hm3 (hs.base (hl1.trans hl2).size)
    first | exact ⟨hok, (hl1.trans hl2).trans hl3⟩ | exact (hl1.trans hl2).trans hl3
end Go.Proofs.Ytfeocfcclmndoaa
