/- The contracts of the document's stretches, of rows that are one, of the trial that all laws of buckets begin with. -/
import Derived.Test.YtdfdohajjgjbdaaBkt2
import Derived.Test.YtdfdohajjgjbdaaCodesBL
set_option linter.unusedSimpArgs false
namespace Go.Proofs.Ytdfdohajjgjbdaa
open Go.Vc Go.Bkt
set_option maxRecDepth 100000 in
theorem rcut_c (a b g : Int) (w : World) (ha : I6 a) (hb : I6 b) (hg : I6 g) : FnC Try.prog 14 #[.int .i64 a, .int .i64 b, .int .i64 g] w fun r w' => CutR w' w.heap.size r a b g ∧ Later w w' := by
  refine enter14 _ _ _ ?_
  unfold B14
  repeat' (first | (simp (disch := omega) only [push_cast, ↓reduceIte, Nat.reduceEqDiff, Int.reduceToNat, Nat.reducePow, Int.reducePow, Int.reduceNeg, Nat.reduceMul, Int.reduceMul, Int.reduceAdd, Int.reduceSub, Nat.reduceAdd, Nat.reduceSub, Nat.reduceLeDiff, Int.reduceLT, Int.reduceLE, Int.reduceEq, Int.reduceMod, Int.reduceDiv, reduceCtorEq, not_true_eq_false, not_false_eq_true]) | refine vIfE_of (fun _ => ?_) (fun _ => ?_) | refine vIfD_of (fun _ => ?_) (fun _ => ?_) | refine vIfQ_of (fun _ => ?_) (fun _ => ?_) | refine vIfV_of (fun _ => ?_) (fun _ => ?_) | refine And.intro (by omega) ?_ | refine drawn_q ?_ | fail)
  refine (rfits_c a g w ha hg).mono ?_
  rintro _ w0 ⟨rfl, hw⟩
  obtain rfl := hw.symm
  repeat' (first | (simp (disch := omega) only [push_cast, ↓reduceIte, Nat.reduceEqDiff, Int.reduceToNat, Nat.reducePow, Int.reducePow, Int.reduceNeg, Nat.reduceMul, Int.reduceMul, Int.reduceAdd, Int.reduceSub, Nat.reduceAdd, Nat.reduceSub, Nat.reduceLeDiff, Int.reduceLT, Int.reduceLE, Int.reduceEq, Int.reduceMod, Int.reduceDiv, reduceCtorEq, not_true_eq_false, not_false_eq_true]) | refine vIfE_of (fun _ => ?_) (fun _ => ?_) | refine vIfD_of (fun _ => ?_) (fun _ => ?_) | refine vIfQ_of (fun _ => ?_) (fun _ => ?_) | refine vIfV_of (fun _ => ?_) (fun _ => ?_) | refine And.intro (by omega) ?_ | refine drawn_q ?_ | fail)
  refine (rfits_c b g w hb hg).mono ?_
  rintro _ w0 ⟨rfl, hw⟩
  obtain rfl := hw.symm
  by_cases hok : Rt g ∧ Ft a ∧ Ft b
  case neg =>
    have hd : (Rt g ∧ Ft a) → ¬ (Rt g ∧ Ft b) := fun h1 h2 => hok ⟨h1.1, h1.2, h2.2⟩
    by_cases h1 : Rt g ∧ Ft a
    · have h2 := hd h1
      repeat' (first | (simp (disch := omega) only [push_cast, ↓reduceIte, Nat.reduceEqDiff, Int.reduceToNat, Nat.reducePow, Int.reducePow, Int.reduceNeg, Nat.reduceMul, Int.reduceMul, Int.reduceAdd, Int.reduceSub, Nat.reduceAdd, Nat.reduceSub, Nat.reduceLeDiff, Int.reduceLT, Int.reduceLE, Int.reduceEq, Int.reduceMod, Int.reduceDiv, reduceCtorEq, not_true_eq_false, not_false_eq_true, h1, h2, decide_true, decide_false]) | refine vIfE_of (fun _ => ?_) (fun _ => ?_) | refine vIfD_of (fun _ => ?_) (fun _ => ?_) | refine vIfQ_of (fun _ => ?_) (fun _ => ?_) | refine vIfV_of (fun _ => ?_) (fun _ => ?_) | refine And.intro (by omega) ?_ | refine drawn_q ?_ | fail)
      exact ⟨cut_bad hok, Later.refl _⟩
    · repeat' (first | (simp (disch := omega) only [push_cast, ↓reduceIte, Nat.reduceEqDiff, Int.reduceToNat, Nat.reducePow, Int.reducePow, Int.reduceNeg, Nat.reduceMul, Int.reduceMul, Int.reduceAdd, Int.reduceSub, Nat.reduceAdd, Nat.reduceSub, Nat.reduceLeDiff, Int.reduceLT, Int.reduceLE, Int.reduceEq, Int.reduceMod, Int.reduceDiv, reduceCtorEq, not_true_eq_false, not_false_eq_true, h1, decide_true, decide_false]) | refine vIfE_of (fun _ => ?_) (fun _ => ?_) | refine vIfD_of (fun _ => ?_) (fun _ => ?_) | refine vIfQ_of (fun _ => ?_) (fun _ => ?_) | refine vIfV_of (fun _ => ?_) (fun _ => ?_) | refine And.intro (by omega) ?_ | refine drawn_q ?_ | fail)
      exact ⟨cut_bad hok, Later.refl _⟩
  have h1 : Rt g ∧ Ft a := ⟨hok.1, hok.2.1⟩
  have h2 : Rt g ∧ Ft b := ⟨hok.1, hok.2.2⟩
  repeat' (first | (simp (disch := omega) only [push_cast, ↓reduceIte, Nat.reduceEqDiff, Int.reduceToNat, Nat.reducePow, Int.reducePow, Int.reduceNeg, Nat.reduceMul, Int.reduceMul, Int.reduceAdd, Int.reduceSub, Nat.reduceAdd, Nat.reduceSub, Nat.reduceLeDiff, Int.reduceLT, Int.reduceLE, Int.reduceEq, Int.reduceMod, Int.reduceDiv, reduceCtorEq, not_true_eq_false, not_false_eq_true, h1, h2, decide_true, decide_false]) | refine vIfE_of (fun _ => ?_) (fun _ => ?_) | refine vIfD_of (fun _ => ?_) (fun _ => ?_) | refine vIfQ_of (fun _ => ?_) (fun _ => ?_) | refine vIfV_of (fun _ => ?_) (fun _ => ?_) | refine And.intro (by omega) ?_ | refine drawn_q ?_ | fail)
  refine vc_loop W14_0 (fun p : Nat × Value => [(10, p.2), (11, .int .i64 (endOf p.1 a b g))])
    (fun p w' => p.1 ≤ 1000 ∧ Later w w' ∧ OwnP w' w.heap.size 34 p.2 (cuts p.1 a b g)) (fun p => 1000 - p.1) (0, .slice none 0 0) (by decide) ?_ ?_ ?_
  · simp (disch := omega) only [push_cast, ↓reduceIte, Nat.reduceEqDiff, Int.reduceToNat, Nat.reducePow, Int.reducePow, Int.reduceNeg, Nat.reduceMul, Int.reduceMul, Int.reduceAdd, Int.reduceSub, Nat.reduceAdd, Nat.reduceSub, Nat.reduceLeDiff, Int.reduceLT, Int.reduceLE, Int.reduceEq, Int.reduceMod, Int.reduceDiv, reduceCtorEq, not_true_eq_false, not_false_eq_true]
    all_goals simp [endOf]
  · exact ⟨by omega, Later.refl _, OwnP.nil _ _ _⟩
  rintro ⟨i, v⟩ uu w1 ⟨hi, hl1, ho⟩
  dsimp only at hi ho
  have g0 : 0 < g := by omega
  have hend := endOf_le (n := i) (a := a) (b := b) g0
  obtain ⟨hsn, hnx⟩ := cuts_snoc i a b g
  have hsl := ho.s.slice
  by_cases hlt : endOf i a b g < b
  · have hfull := cuts_full hlt
    rw [if_pos hlt] at hnx hsn
    have hA : Ft (endOf i a b g) := by omega
    have hng := nxt_gt g0 hlt
    have hfl := flr_le (t := endOf i a b g) g0
    have hnd : nxt (endOf i a b g) b g = min (flr (endOf i a b g) g + g) b := rfl
    have ho2 := ho
    rw [hfull] at hsl
    obtain ⟨oo, cc, rfl, hc1, hc2⟩ := hsl
    have e1 : flrR (endOf i a b g) g = (flr (endOf i a b g) g, 0) := by unfold flrR; rw [if_pos ⟨hok.1, hA⟩]
    generalize hAA : endOf i a b g = A at *
    generalize hNN : Bkt.nxt A b g = N at *
    by_cases hk : i = 1000
    · repeat' (first | (simp (disch := omega) only [push_cast, ↓reduceIte, Nat.reduceEqDiff, Int.reduceToNat, Nat.reducePow, Int.reducePow, Int.reduceNeg, Nat.reduceMul, Int.reduceMul, Int.reduceAdd, Int.reduceSub, Nat.reduceAdd, Nat.reduceSub, Nat.reduceLeDiff, Int.reduceLT, Int.reduceLE, Int.reduceEq, Int.reduceMod, Int.reduceDiv, reduceCtorEq, not_true_eq_false, not_false_eq_true]) | refine vIfE_of (fun _ => ?_) (fun _ => ?_) | refine vIfD_of (fun _ => ?_) (fun _ => ?_) | refine vIfQ_of (fun _ => ?_) (fun _ => ?_) | refine vIfV_of (fun _ => ?_) (fun _ => ?_) | refine And.intro (by omega) ?_ | refine drawn_q ?_ | fail)
      subst hk
      exact ⟨cut_ok hok ho, hl1⟩
    · repeat' (first | (simp (disch := omega) only [push_cast, ↓reduceIte, Nat.reduceEqDiff, Int.reduceToNat, Nat.reducePow, Int.reducePow, Int.reduceNeg, Nat.reduceMul, Int.reduceMul, Int.reduceAdd, Int.reduceSub, Nat.reduceAdd, Nat.reduceSub, Nat.reduceLeDiff, Int.reduceLT, Int.reduceLE, Int.reduceEq, Int.reduceMod, Int.reduceDiv, reduceCtorEq, not_true_eq_false, not_false_eq_true]) | refine vIfE_of (fun _ => ?_) (fun _ => ?_) | refine vIfD_of (fun _ => ?_) (fun _ => ?_) | refine vIfQ_of (fun _ => ?_) (fun _ => ?_) | refine vIfV_of (fun _ => ?_) (fun _ => ?_) | refine And.intro (by omega) ?_ | refine drawn_q ?_ | fail)
      refine (rfloor_c A g w1 (by omega) hg).mono ?_
      rintro _ w0 ⟨rfl, hw⟩
      obtain rfl := hw.symm
      rw [e1]
      unfold tupF
      repeat' (first | (simp (disch := omega) only [push_cast, ↓reduceIte, Nat.reduceEqDiff, Int.reduceToNat, Nat.reducePow, Int.reducePow, Int.reduceNeg, Nat.reduceMul, Int.reduceMul, Int.reduceAdd, Int.reduceSub, Nat.reduceAdd, Nat.reduceSub, Nat.reduceLeDiff, Int.reduceLT, Int.reduceLE, Int.reduceEq, Int.reduceMod, Int.reduceDiv, reduceCtorEq, not_true_eq_false, not_false_eq_true, ← hnd]) | refine vIfE_of (fun _ => ?_) (fun _ => ?_) | refine vIfD_of (fun _ => ?_) (fun _ => ?_) | refine vIfQ_of (fun _ => ?_) (fun _ => ?_) | refine vIfV_of (fun _ => ?_) (fun _ => ?_) | refine And.intro (by omega) ?_ | refine drawn_q ?_ | fail)
      refine vAppend_pair Try.underlying22 ti34 rfl (B := w.heap.size) (x := A) (y := N) (l := cuts i a b g) ho (by rw [hfull]; unfold maxLen; omega) (by rw [hfull]; omega) hl1.size ?_
      intro v' w' ho' _ hlk
      rw [← hsn] at ho'
      repeat' (first | (simp (disch := omega) only [push_cast, ↓reduceIte, Nat.reduceEqDiff, Int.reduceToNat, Nat.reducePow, Int.reducePow, Int.reduceNeg, Nat.reduceMul, Int.reduceMul, Int.reduceAdd, Int.reduceSub, Nat.reduceAdd, Nat.reduceSub, Nat.reduceLeDiff, Int.reduceLT, Int.reduceLE, Int.reduceEq, Int.reduceMod, Int.reduceDiv, reduceCtorEq, not_true_eq_false, not_false_eq_true]) | refine vIfE_of (fun _ => ?_) (fun _ => ?_) | refine vIfD_of (fun _ => ?_) (fun _ => ?_) | refine vIfQ_of (fun _ => ?_) (fun _ => ?_) | refine vIfV_of (fun _ => ?_) (fun _ => ?_) | refine And.intro (by omega) ?_ | refine drawn_q ?_ | fail)
      refine ⟨rfl, (i + 1, v'), by simp (disch := omega) only [push_cast, ↓reduceIte, Nat.reduceEqDiff, Int.reduceToNat, Nat.reducePow, Int.reducePow, Int.reduceNeg, Nat.reduceMul, Int.reduceMul, Int.reduceAdd, Int.reduceSub, Nat.reduceAdd, Nat.reduceSub, Nat.reduceLeDiff, Int.reduceLT, Int.reduceLE, Int.reduceEq, Int.reduceMod, Int.reduceDiv, reduceCtorEq, not_true_eq_false, not_false_eq_true]; simp [hnx], ⟨by omega, hlk w hl1 (Nat.le_refl _), ho'⟩, by simp; omega⟩
  · have hm := (cuts_more hlt (1000 - i)).1
    have e1 : i + (1000 - i) = 1000 := by omega
    rw [e1] at hm
    obtain ⟨oo, cc, rfl, hc1, hc2⟩ := hsl
    repeat' (first | (simp (disch := omega) only [push_cast, ↓reduceIte, Nat.reduceEqDiff, Int.reduceToNat, Nat.reducePow, Int.reducePow, Int.reduceNeg, Nat.reduceMul, Int.reduceMul, Int.reduceAdd, Int.reduceSub, Nat.reduceAdd, Nat.reduceSub, Nat.reduceLeDiff, Int.reduceLT, Int.reduceLE, Int.reduceEq, Int.reduceMod, Int.reduceDiv, reduceCtorEq, not_true_eq_false, not_false_eq_true]) | refine vIfE_of (fun _ => ?_) (fun _ => ?_) | refine vIfD_of (fun _ => ?_) (fun _ => ?_) | refine vIfQ_of (fun _ => ?_) (fun _ => ?_) | refine vIfV_of (fun _ => ?_) (fun _ => ?_) | refine And.intro (by omega) ?_ | refine drawn_q ?_ | fail)
    refine ⟨cut_ok hok ?_, hl1⟩
    rw [hm]; exact ho
/-- Two pairs, held against one another, in an expression of two ways. -/
theorem qX_run {x y : Operand} {u ty : TypeId} {σ : Env} {w : World} {K : Value → Prop} {a b c d : Int} (hx : ev σ x = .agg #[.int .i64 a, .int .i64 b]) (hy : ev σ y = .agg #[.int .i64 c, .int .i64 d]) (hk : K (.bool (!decide ((a, b) = (c, d))))) :
    qX Try.prog (.binOp .neq 34 x y u) ty σ w K := by
  refine pure_of_up (s := do eqGuard .neq 34 x y (ev σ x) (ev σ y); binOp .neq 34 (ev σ x) (ev σ y)) (fun w' => ?_) ⟨_, fun w' => ?_, hk⟩
  · unfold exe; simp only [execOp]; rfl
  · rw [hx, hy]
    exact run_pair Try.underlying34 Try.underlying3 Try.underlying3 rfl rfl (by decide) (by decide) (by kernel_rfl) (by kernel_rfl) _ _ _ _ _ _ _
set_option maxRecDepth 100000 in
theorem psame_c (u v : Value) (a b : List (Int × Int)) (w : World) (hu : PairS w u a) (hv : PairS w v b) : FnC Try.prog 16 #[u, v] w fun r w' => r = .bool (decide (a = b)) ∧ Later w w' := by
  obtain ⟨oa, ca, rfl, g1, g2⟩ := hu.slice
  obtain ⟨ob, cb, rfl, k1, k2⟩ := hv.slice
  refine enter16 _ _ ?_
  unfold B16
  by_cases hlen : a.length = b.length
  · repeat' (first | (simp (disch := omega) only [push_cast, ↓reduceIte, Nat.reduceEqDiff, Int.reduceToNat, Nat.reducePow, Int.reducePow, Int.reduceNeg, Nat.reduceMul, Int.reduceMul, Int.reduceAdd, Int.reduceSub, Nat.reduceAdd, Nat.reduceSub, Nat.reduceLeDiff, Int.reduceLT, Int.reduceLE, Int.reduceEq, Int.reduceMod, Int.reduceDiv, reduceCtorEq, not_true_eq_false, not_false_eq_true]) | refine vIfE_of (fun _ => ?_) (fun _ => ?_) | refine vIfD_of (fun _ => ?_) (fun _ => ?_) | refine vIfQ_of (fun _ => ?_) (fun _ => ?_) | refine vIfV_of (fun _ => ?_) (fun _ => ?_) | refine And.intro (by omega) ?_ | refine drawn_q ?_ | fail)
    refine vc_loop W16_0 (fun i : Nat => [(4, .bool false), (5, .int .i64 (i : Int))])
      (fun i w' => i ≤ a.length ∧ Later w w' ∧ a.take i = b.take i) (fun i => a.length - i) 0 (by decide) ?_ ?_ ?_
    · simp (disch := omega) only [push_cast, ↓reduceIte, Nat.reduceEqDiff, Int.reduceToNat, Nat.reducePow, Int.reducePow, Int.reduceNeg, Nat.reduceMul, Int.reduceMul, Int.reduceAdd, Int.reduceSub, Nat.reduceAdd, Nat.reduceSub, Nat.reduceLeDiff, Int.reduceLT, Int.reduceLE, Int.reduceEq, Int.reduceMod, Int.reduceDiv, reduceCtorEq, not_true_eq_false, not_false_eq_true]
    · exact ⟨by omega, Later.refl _, by simp⟩
    rintro i uu w0 ⟨hi, hl, he⟩
    by_cases ha : i < a.length
    · have hb : i < b.length := by omega
      obtain ⟨aa, rfl, c1, _⟩ := (hu.later hl).at ha
      obtain ⟨bb, rfl, c2, _⟩ := (hv.later hl).at hb
      unfold pairC at c1 c2
      repeat' (first | (simp (disch := omega) only [push_cast, ↓reduceIte, Nat.reduceEqDiff, Int.reduceToNat, Nat.reducePow, Int.reducePow, Int.reduceNeg, Nat.reduceMul, Int.reduceMul, Int.reduceAdd, Int.reduceSub, Nat.reduceAdd, Nat.reduceSub, Nat.reduceLeDiff, Int.reduceLT, Int.reduceLE, Int.reduceEq, Int.reduceMod, Int.reduceDiv, reduceCtorEq, not_true_eq_false, not_false_eq_true]) | refine vIfE_of (fun _ => ?_) (fun _ => ?_) | refine vIfD_of (fun _ => ?_) (fun _ => ?_) | refine vIfQ_of (fun _ => ?_) (fun _ => ?_) | refine vIfV_of (fun _ => ?_) (fun _ => ?_) | refine And.intro (by omega) ?_ | fail)
      refine drawn_q ?_
      repeat' (first | (simp (disch := omega) only [push_cast, ↓reduceIte, Nat.reduceEqDiff, Int.reduceToNat, Nat.reducePow, Int.reducePow, Int.reduceNeg, Nat.reduceMul, Int.reduceMul, Int.reduceAdd, Int.reduceSub, Nat.reduceAdd, Nat.reduceSub, Nat.reduceLeDiff, Int.reduceLT, Int.reduceLE, Int.reduceEq, Int.reduceMod, Int.reduceDiv, reduceCtorEq, not_true_eq_false, not_false_eq_true, c1, c2]) | refine vIfE_of (fun _ => ?_) (fun _ => ?_) | refine vIfD_of (fun _ => ?_) (fun _ => ?_) | refine vIfQ_of (fun _ => ?_) (fun _ => ?_) | refine vIfV_of (fun _ => ?_) (fun _ => ?_) | refine And.intro (by omega) ?_ | refine drawn_q ?_ | fail)
      refine qX_run (a := a[i].1) (b := a[i].2) (c := b[i].1) (d := b[i].2) (by simp (disch := omega) only [push_cast, ↓reduceIte, Nat.reduceEqDiff, Int.reduceToNat, Nat.reducePow, Int.reducePow, Int.reduceNeg, Nat.reduceMul, Int.reduceMul, Int.reduceAdd, Int.reduceSub, Nat.reduceAdd, Nat.reduceSub, Nat.reduceLeDiff, Int.reduceLT, Int.reduceLE, Int.reduceEq, Int.reduceMod, Int.reduceDiv, reduceCtorEq, not_true_eq_false, not_false_eq_true]) (by simp (disch := omega) only [push_cast, ↓reduceIte, Nat.reduceEqDiff, Int.reduceToNat, Nat.reducePow, Int.reducePow, Int.reduceNeg, Nat.reduceMul, Int.reduceMul, Int.reduceAdd, Int.reduceSub, Nat.reduceAdd, Nat.reduceSub, Nat.reduceLeDiff, Int.reduceLT, Int.reduceLE, Int.reduceEq, Int.reduceMod, Int.reduceDiv, reduceCtorEq, not_true_eq_false, not_false_eq_true]) ?_
      by_cases hab : a[i] = b[i]
      · repeat' (first | (simp (disch := omega) only [push_cast, ↓reduceIte, Nat.reduceEqDiff, Int.reduceToNat, Nat.reducePow, Int.reducePow, Int.reduceNeg, Nat.reduceMul, Int.reduceMul, Int.reduceAdd, Int.reduceSub, Nat.reduceAdd, Nat.reduceSub, Nat.reduceLeDiff, Int.reduceLT, Int.reduceLE, Int.reduceEq, Int.reduceMod, Int.reduceDiv, reduceCtorEq, not_true_eq_false, not_false_eq_true, hab, decide_true]) | refine vIfE_of (fun _ => ?_) (fun _ => ?_) | refine vIfD_of (fun _ => ?_) (fun _ => ?_) | refine vIfQ_of (fun _ => ?_) (fun _ => ?_) | refine vIfV_of (fun _ => ?_) (fun _ => ?_) | refine And.intro (by omega) ?_ | refine drawn_q ?_ | fail)
        intro w1 hl1
        repeat' (first | (simp (disch := omega) only [push_cast, ↓reduceIte, Nat.reduceEqDiff, Int.reduceToNat, Nat.reducePow, Int.reducePow, Int.reduceNeg, Nat.reduceMul, Int.reduceMul, Int.reduceAdd, Int.reduceSub, Nat.reduceAdd, Nat.reduceSub, Nat.reduceLeDiff, Int.reduceLT, Int.reduceLE, Int.reduceEq, Int.reduceMod, Int.reduceDiv, reduceCtorEq, not_true_eq_false, not_false_eq_true]) | refine vIfE_of (fun _ => ?_) (fun _ => ?_) | refine vIfD_of (fun _ => ?_) (fun _ => ?_) | refine vIfQ_of (fun _ => ?_) (fun _ => ?_) | refine vIfV_of (fun _ => ?_) (fun _ => ?_) | refine And.intro (by omega) ?_ | refine drawn_q ?_ | fail)
        refine ⟨rfl, i + 1, by simp (disch := omega) only [push_cast, ↓reduceIte, Nat.reduceEqDiff, Int.reduceToNat, Nat.reducePow, Int.reducePow, Int.reduceNeg, Nat.reduceMul, Int.reduceMul, Int.reduceAdd, Int.reduceSub, Nat.reduceAdd, Nat.reduceSub, Nat.reduceLeDiff, Int.reduceLT, Int.reduceLE, Int.reduceEq, Int.reduceMod, Int.reduceDiv, reduceCtorEq, not_true_eq_false, not_false_eq_true], ⟨by omega, hl.trans hl1, ?_⟩, by simp; omega⟩
        rw [take_snoc a i ha, take_snoc b i hb, he, hab]
      · have hne : a ≠ b := fun e => by subst e; exact hab rfl
        have hab' : ¬ ((a[i].1, a[i].2) = (b[i].1, b[i].2)) := hab
        repeat' (first | (simp (disch := omega) only [push_cast, ↓reduceIte, Nat.reduceEqDiff, Int.reduceToNat, Nat.reducePow, Int.reducePow, Int.reduceNeg, Nat.reduceMul, Int.reduceMul, Int.reduceAdd, Int.reduceSub, Nat.reduceAdd, Nat.reduceSub, Nat.reduceLeDiff, Int.reduceLT, Int.reduceLE, Int.reduceEq, Int.reduceMod, Int.reduceDiv, reduceCtorEq, not_true_eq_false, not_false_eq_true, hab', decide_false]) | refine vIfE_of (fun _ => ?_) (fun _ => ?_) | refine vIfD_of (fun _ => ?_) (fun _ => ?_) | refine vIfQ_of (fun _ => ?_) (fun _ => ?_) | refine vIfV_of (fun _ => ?_) (fun _ => ?_) | refine And.intro (by omega) ?_ | refine drawn_q ?_ | fail)
        intro w1 hl1
        repeat' (first | (simp (disch := omega) only [push_cast, ↓reduceIte, Nat.reduceEqDiff, Int.reduceToNat, Nat.reducePow, Int.reducePow, Int.reduceNeg, Nat.reduceMul, Int.reduceMul, Int.reduceAdd, Int.reduceSub, Nat.reduceAdd, Nat.reduceSub, Nat.reduceLeDiff, Int.reduceLT, Int.reduceLE, Int.reduceEq, Int.reduceMod, Int.reduceDiv, reduceCtorEq, not_true_eq_false, not_false_eq_true]) | refine vIfE_of (fun _ => ?_) (fun _ => ?_) | refine vIfD_of (fun _ => ?_) (fun _ => ?_) | refine vIfQ_of (fun _ => ?_) (fun _ => ?_) | refine vIfV_of (fun _ => ?_) (fun _ => ?_) | refine And.intro (by omega) ?_ | refine drawn_q ?_ | fail)
        simp [hne, hl.trans hl1]
    · have e : i = a.length := by omega
      subst e
      rw [List.take_length, hlen, List.take_length] at he
      repeat' (first | (simp (disch := omega) only [push_cast, ↓reduceIte, Nat.reduceEqDiff, Int.reduceToNat, Nat.reducePow, Int.reducePow, Int.reduceNeg, Nat.reduceMul, Int.reduceMul, Int.reduceAdd, Int.reduceSub, Nat.reduceAdd, Nat.reduceSub, Nat.reduceLeDiff, Int.reduceLT, Int.reduceLE, Int.reduceEq, Int.reduceMod, Int.reduceDiv, reduceCtorEq, not_true_eq_false, not_false_eq_true]) | refine vIfE_of (fun _ => ?_) (fun _ => ?_) | refine vIfD_of (fun _ => ?_) (fun _ => ?_) | refine vIfQ_of (fun _ => ?_) (fun _ => ?_) | refine vIfV_of (fun _ => ?_) (fun _ => ?_) | refine And.intro (by omega) ?_ | refine drawn_q ?_ | fail)
      simp [he, hl]
  · have hne : a ≠ b := fun e => by subst e; exact hlen rfl
    repeat' (first | (simp (disch := omega) only [push_cast, ↓reduceIte, Nat.reduceEqDiff, Int.reduceToNat, Nat.reducePow, Int.reducePow, Int.reduceNeg, Nat.reduceMul, Int.reduceMul, Int.reduceAdd, Int.reduceSub, Nat.reduceAdd, Nat.reduceSub, Nat.reduceLeDiff, Int.reduceLT, Int.reduceLE, Int.reduceEq, Int.reduceMod, Int.reduceDiv, reduceCtorEq, not_true_eq_false, not_false_eq_true]) | refine vIfE_of (fun _ => ?_) (fun _ => ?_) | refine vIfD_of (fun _ => ?_) (fun _ => ?_) | refine vIfQ_of (fun _ => ?_) (fun _ => ?_) | refine vIfV_of (fun _ => ?_) (fun _ => ?_) | refine And.intro (by omega) ?_ | refine drawn_q ?_ | fail)
    simp [hne, Later.refl]
set_option maxRecDepth 100000 in
theorem balive_c (w : World) : FnC Try.prog 15 #[] w fun v w' => v = .bool true ∧ Later w w' := by
  refine enter15 ?_
  unfold B15
  have e1 : flrR (-7) 5 = (-10, 0) := by decide
  have e2 : celR (-7) 5 = (-5, 0) := by decide
  have e3 : cutE 3 11 5 = 0 := by decide
  have e4 : cutL 3 11 5 = [(3, 5), (5, 10), (10, 11)] := by decide +kernel
  have e5 : coB 10 5 = true := by decide
  repeat' (first | (simp (disch := omega) only [push_cast, ↓reduceIte, Nat.reduceEqDiff, Int.reduceToNat, Nat.reducePow, Int.reducePow, Int.reduceNeg, Nat.reduceMul, Int.reduceMul, Int.reduceAdd, Int.reduceSub, Nat.reduceAdd, Nat.reduceSub, Nat.reduceLeDiff, Int.reduceLT, Int.reduceLE, Int.reduceEq, Int.reduceMod, Int.reduceDiv, reduceCtorEq, not_true_eq_false, not_false_eq_true]) | refine vIfE_of (fun _ => ?_) (fun _ => ?_) | refine vIfD_of (fun _ => ?_) (fun _ => ?_) | refine vIfQ_of (fun _ => ?_) (fun _ => ?_) | refine vIfV_of (fun _ => ?_) (fun _ => ?_) | refine And.intro (by omega) ?_ | refine drawn_q ?_ | fail)
  refine (bfloor_c (-7) 5 w (by omega) (by omega)).mono ?_
  rintro _ w0 ⟨rfl, hw⟩
  obtain rfl := hw.symm
  rw [e1]
  unfold tupF
  repeat' (first | (simp (disch := omega) only [push_cast, ↓reduceIte, Nat.reduceEqDiff, Int.reduceToNat, Nat.reducePow, Int.reducePow, Int.reduceNeg, Nat.reduceMul, Int.reduceMul, Int.reduceAdd, Int.reduceSub, Nat.reduceAdd, Nat.reduceSub, Nat.reduceLeDiff, Int.reduceLT, Int.reduceLE, Int.reduceEq, Int.reduceMod, Int.reduceDiv, reduceCtorEq, not_true_eq_false, not_false_eq_true]) | refine vIfE_of (fun _ => ?_) (fun _ => ?_) | refine vIfD_of (fun _ => ?_) (fun _ => ?_) | refine vIfQ_of (fun _ => ?_) (fun _ => ?_) | refine vIfV_of (fun _ => ?_) (fun _ => ?_) | refine And.intro (by omega) ?_ | refine drawn_q ?_ | fail)
  refine (bceil_c (-7) 5 w (by omega) (by omega)).mono ?_
  rintro _ w0 ⟨rfl, hw⟩
  obtain rfl := hw.symm
  rw [e2]
  unfold tupF
  repeat' (first | (simp (disch := omega) only [push_cast, ↓reduceIte, Nat.reduceEqDiff, Int.reduceToNat, Nat.reducePow, Int.reducePow, Int.reduceNeg, Nat.reduceMul, Int.reduceMul, Int.reduceAdd, Int.reduceSub, Nat.reduceAdd, Nat.reduceSub, Nat.reduceLeDiff, Int.reduceLT, Int.reduceLE, Int.reduceEq, Int.reduceMod, Int.reduceDiv, reduceCtorEq, not_true_eq_false, not_false_eq_true]) | refine vIfE_of (fun _ => ?_) (fun _ => ?_) | refine vIfD_of (fun _ => ?_) (fun _ => ?_) | refine vIfQ_of (fun _ => ?_) (fun _ => ?_) | refine vIfV_of (fun _ => ?_) (fun _ => ?_) | refine And.intro (by omega) ?_ | refine drawn_q ?_ | fail)
  refine (cut_c 3 11 5 w (by omega) (by omega) (by omega)).mono ?_
  rintro _ w1 ⟨⟨x, rfl, hx⟩, hl1⟩
  rw [e3]
  rw [e4] at hx
  repeat' (first | (simp (disch := omega) only [push_cast, ↓reduceIte, Nat.reduceEqDiff, Int.reduceToNat, Nat.reducePow, Int.reducePow, Int.reduceNeg, Nat.reduceMul, Int.reduceMul, Int.reduceAdd, Int.reduceSub, Nat.reduceAdd, Nat.reduceSub, Nat.reduceLeDiff, Int.reduceLT, Int.reduceLE, Int.reduceEq, Int.reduceMod, Int.reduceDiv, reduceCtorEq, not_true_eq_false, not_false_eq_true]) | refine vIfE_of (fun _ => ?_) (fun _ => ?_) | refine vIfD_of (fun _ => ?_) (fun _ => ?_) | refine vIfQ_of (fun _ => ?_) (fun _ => ?_) | refine vIfV_of (fun _ => ?_) (fun _ => ?_) | refine And.intro (by omega) ?_ | refine drawn_q ?_ | fail)
  have hy : PairS (w1.alloc (.cells #[.int .i64 3, .int .i64 5, .int .i64 5, .int .i64 10, .int .i64 10, .int .i64 11] 34)) (.slice (some ⟨w1.heap.size, 0, none⟩) 3 3) [(3, 5), (5, 10), (10, 11)] := by
    exact SlN.lit w1 [.int .i64 3, .int .i64 5, .int .i64 5, .int .i64 10, .int .i64 10, .int .i64 11] 34 2 3 rfl (by unfold maxLen; omega)
  have hl2 := later_alloc w1 (.cells #[.int .i64 3, .int .i64 5, .int .i64 5, .int .i64 10, .int .i64 10, .int .i64 11] 34)
  generalize w1.alloc (.cells #[.int .i64 3, .int .i64 5, .int .i64 5, .int .i64 10, .int .i64 10, .int .i64 11] 34) = w2 at *
  refine (psame_c _ _ _ _ w2 (hx.s.later hl2) hy).mono ?_
  rintro _ w3 ⟨rfl, hl3⟩
  repeat' (first | (simp (disch := omega) only [push_cast, ↓reduceIte, Nat.reduceEqDiff, Int.reduceToNat, Nat.reducePow, Int.reducePow, Int.reduceNeg, Nat.reduceMul, Int.reduceMul, Int.reduceAdd, Int.reduceSub, Nat.reduceAdd, Nat.reduceSub, Nat.reduceLeDiff, Int.reduceLT, Int.reduceLE, Int.reduceEq, Int.reduceMod, Int.reduceDiv, reduceCtorEq, not_true_eq_false, not_false_eq_true, decide_true]) | refine vIfE_of (fun _ => ?_) (fun _ => ?_) | refine vIfD_of (fun _ => ?_) (fun _ => ?_) | refine vIfQ_of (fun _ => ?_) (fun _ => ?_) | refine vIfV_of (fun _ => ?_) (fun _ => ?_) | refine And.intro (by omega) ?_ | refine drawn_q ?_ | fail)
  refine (bcoarser_c 10 5 w3 (by omega) (by omega)).mono ?_
  rintro _ w0 ⟨rfl, hw⟩
  obtain rfl := hw.symm
  rw [e5]
  repeat' (first | (simp (disch := omega) only [push_cast, ↓reduceIte, Nat.reduceEqDiff, Int.reduceToNat, Nat.reducePow, Int.reducePow, Int.reduceNeg, Nat.reduceMul, Int.reduceMul, Int.reduceAdd, Int.reduceSub, Nat.reduceAdd, Nat.reduceSub, Nat.reduceLeDiff, Int.reduceLT, Int.reduceLE, Int.reduceEq, Int.reduceMod, Int.reduceDiv, reduceCtorEq, not_true_eq_false, not_false_eq_true]) | refine vIfE_of (fun _ => ?_) (fun _ => ?_) | refine vIfD_of (fun _ => ?_) (fun _ => ?_) | refine vIfQ_of (fun _ => ?_) (fun _ => ?_) | refine vIfV_of (fun _ => ?_) (fun _ => ?_) | refine And.intro (by omega) ?_ | refine drawn_q ?_ | fail)
  exact (hl1.trans hl2).trans hl3
end Go.Proofs.Ytdfdohajjgjbdaa
