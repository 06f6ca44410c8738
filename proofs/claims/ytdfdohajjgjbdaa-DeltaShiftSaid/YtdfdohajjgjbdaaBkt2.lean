/- The contracts of the stretches between two times: the program's loop over a function, and the document's. -/
import Derived.Test.YtdfdohajjgjbdaaBkt1
import Derived.Test.YtdfdohajjgjbdaaMem6
set_option linter.unusedSimpArgs false
namespace Go.Proofs.Ytdfdohajjgjbdaa
open Go.Vc Go.Bkt
/-- A row of one type stays where a block of another is written. -/
theorem own_chg_ty {w w' : World} {base s n k : Nat} {e e' : TypeId} {cs : Array Value} {v : Value} {xs : List Value} (h : w.ownsRow base e s v n xs) (hb : Blk w k cs e') (hne : e ≠ e') (g : Chg w w' [k]) : w'.ownsRow base e s v n xs := by
  obtain ⟨h0, h⟩ := h
  refine ⟨h0, ?_⟩
  rcases h with h | ⟨b, cap, cur, hv, hbb, hh, h3⟩
  · exact .inl h
  · refine .inr ⟨b, cap, cur, hv, hbb, ?_, h3⟩
    rw [g.block b (Blk.lt hh) ?_]
    · exact hh
    · intro hm
      simp only [List.mem_singleton] at hm
      subst hm
      unfold Blk at hb
      rw [hh] at hb
      simp only [Option.some.injEq, Obj.cells.injEq] at hb
      exact hne hb.2.1
theorem own_obj {w w' : World} {base s n k : Nat} {e : TypeId} {o : Obj} {v : Value} {xs : List Value} (h : w.ownsRow base e s v n xs) (hb : w.heap[k]? = some o) (ho : o.isCells = false) (g : Chg w w' [k]) : w'.ownsRow base e s v n xs := by
  obtain ⟨h0, h⟩ := h
  refine ⟨h0, ?_⟩
  rcases h with h | ⟨b, cap, cur, hv, hbb, hh, h3⟩
  · exact .inl h
  · refine .inr ⟨b, cap, cur, hv, hbb, ?_, h3⟩
    rw [g.block b (Blk.lt hh) ?_]
    · exact hh
    · intro hm
      simp only [List.mem_singleton] at hm
      subst hm
      rw [hh] at hb
      simp only [Option.some.injEq] at hb
      subst hb
      simp [Obj.isCells] at ho
theorem own_ne {w : World} {base s n k : Nat} {e : TypeId} {o : Obj} {v : Value} {xs : List Value} (h : w.ownsRow base e s v n xs) (hk : w.heap[k]? = some o) (ho : ∀ cs, o ≠ .cells cs e (0, 0)) : v.ownBlock ≠ some k := by
  obtain ⟨h0, h⟩ := h
  rcases h with ⟨rfl, _⟩ | ⟨b, cap, cur, rfl, _, hh, _⟩
  · simp [Value.ownBlock]
  · simp only [Value.ownBlock]
    intro he
    simp only [Option.some.injEq] at he
    subst he
    rw [hh] at hk
    simp only [Option.some.injEq] at hk
    exact ho cur hk.symm
theorem not_cells {o : Obj} (h : o.isCells = false) (e : TypeId) : ∀ cs, o ≠ .cells cs e (0, 0) := by
  intro cs e'
  subst e'
  simp [Obj.isCells] at h
theorem grown_obj {w w' : World} {base s n k : Nat} {e : TypeId} {o : Obj} {v : Value} {xs : List Value} (h : w.ownsRow base e s v n xs) (g : w.grownBy w' v.ownBlock) (hk : w.heap[k]? = some o) (ho : ∀ cs, o ≠ .cells cs e (0, 0)) : w'.heap[k]? = some o := by
  rw [g.block k (Array.getElem?_eq_some_iff.1 hk).1 (fun e => own_ne h hk ho e.symm)]; exact hk
def ptb (k : Nat) : Value := .pointer (some ⟨k, 0, none⟩)
set_option maxRecDepth 100000 in
theorem stretch_c (L kf kt kg : Nat) (a b g : Int) (hg : Rt g) (ha : Ft a) (hb : Ft b) (I : Nat → World → Prop) (J : World → Prop) (w : World)
    (hf : Blk w kf #[.int .i64 a] 3) (ht : Blk w kt #[.int .i64 b] 3) (hk : Blk w kg #[.int .i64 g] 3) (d1 : kt ≠ kf) (d2 : kg ≠ kf) (h0 : I 0 w)
    (hstab : ∀ i w1 w2 x, I i w1 → Blk w1 kf #[x] 3 → Chg w1 w2 [kf] → I i w2)
    (hy : ∀ i w1, I i w1 → endOf i a b g < b → Blk w1 kf #[.int .i64 (endOf i a b g)] 3 → Blk w1 kt #[.int .i64 b] 3 → Blk w1 kg #[.int .i64 g] 3 →
      YldC Try.prog L #[.agg #[.int .i64 (endOf i a b g), .int .i64 (nxt (endOf i a b g) b g)]] w1 fun v w2 =>
        (v = .bool true ∧ I (i + 1) w2 ∧ Blk w2 kf #[.int .i64 (endOf i a b g)] 3 ∧ Blk w2 kt #[.int .i64 b] 3 ∧ Blk w2 kg #[.int .i64 g] 3) ∨ (v = .bool false ∧ J w2)) :
    FnC Try.prog 62 #[.func (.yield L) #[] #[], ptb kf, ptb kt, ptb kg] w fun _ w' => (∃ i, ¬ endOf i a b g < b ∧ I i w') ∨ J w' := by
  refine enter62 _ _ _ _ ?_
  unfold B62 ptb
  repeat' (first | (simp (disch := omega) only [push_cast, ↓reduceIte, Nat.reduceEqDiff, Int.reduceToNat, Nat.reducePow, Int.reducePow, Int.reduceNeg, Nat.reduceMul, Int.reduceMul, Int.reduceAdd, Int.reduceSub, Nat.reduceAdd, Nat.reduceSub, Nat.reduceLeDiff, Int.reduceLT, Int.reduceLE, Int.reduceEq, Int.reduceMod, Int.reduceDiv, reduceCtorEq, not_true_eq_false, not_false_eq_true]) | refine vIfE_of (fun _ => ?_) (fun _ => ?_) | refine vIfD_of (fun _ => ?_) (fun _ => ?_) | refine vIfQ_of (fun _ => ?_) (fun _ => ?_) | refine vIfV_of (fun _ => ?_) (fun _ => ?_) | refine And.intro (by omega) ?_ | refine drawn_q ?_ | fail)
  refine vc_loop W62_0 (fun _ : Nat => []) (fun i w' => I i w' ∧ Blk w' kf #[.int .i64 (endOf i a b g)] 3 ∧ Blk w' kt #[.int .i64 b] 3 ∧ Blk w' kg #[.int .i64 g] 3)
    (fun i => (b - endOf i a b g).toNat) 0 (by decide) ?_ ?_ ?_
  · simp (disch := omega) only [push_cast, ↓reduceIte, Nat.reduceEqDiff, Int.reduceToNat, Nat.reducePow, Int.reducePow, Int.reduceNeg, Nat.reduceMul, Int.reduceMul, Int.reduceAdd, Int.reduceSub, Nat.reduceAdd, Nat.reduceSub, Nat.reduceLeDiff, Int.reduceLT, Int.reduceLE, Int.reduceEq, Int.reduceMod, Int.reduceDiv, reduceCtorEq, not_true_eq_false, not_false_eq_true]
  · exact ⟨h0, hf, ht, hk⟩
  rintro i uu w1 ⟨hI, hf1, ht1, hk1⟩
  have c1 : w1.cell? ⟨kf, 0, none⟩ = some (.int .i64 (endOf i a b g)) := hf1.cell 0
  have c2 : w1.cell? ⟨kt, 0, none⟩ = some (.int .i64 b) := ht1.cell 0
  have c3 : w1.cell? ⟨kg, 0, none⟩ = some (.int .i64 g) := hk1.cell 0
  have g0 : 0 < g := by omega
  have hend := endOf_le (n := i) (a := a) (b := b) g0
  have hnx := (cuts_snoc i a b g).2
  by_cases hlt : endOf i a b g < b
  · have hng := nxt_gt g0 hlt
    rw [if_pos hlt] at hnx
    have hA : Ft (endOf i a b g) := by omega
    have hfl := flr_le (t := endOf i a b g) g0
    have hnd : nxt (endOf i a b g) b g = min (flr (endOf i a b g) g + g) b := rfl
    have hem : endOf i a b g - endOf i a b g % g = flr (endOf i a b g) g := rfl
    have hyi := hy i
    generalize endOf i a b g = A at *
    generalize hB : nxt A b g = B at *
    have he := em A g g0
    repeat' (first | (simp (disch := omega) only [push_cast, ↓reduceIte, Nat.reduceEqDiff, Int.reduceToNat, Nat.reducePow, Int.reducePow, Int.reduceNeg, Nat.reduceMul, Int.reduceMul, Int.reduceAdd, Int.reduceSub, Nat.reduceAdd, Nat.reduceSub, Nat.reduceLeDiff, Int.reduceLT, Int.reduceLE, Int.reduceEq, Int.reduceMod, Int.reduceDiv, reduceCtorEq, not_true_eq_false, not_false_eq_true, c1, c2, c3]) | refine vIfE_of (fun _ => ?_) (fun _ => ?_) | refine vIfD_of (fun _ => ?_) (fun _ => ?_) | refine vIfQ_of (fun _ => ?_) (fun _ => ?_) | refine vIfV_of (fun _ => ?_) (fun _ => ?_) | refine And.intro (by omega) ?_ | refine drawn_q ?_ | fail)
    refine QFn.of hb37 (v := .int .i64 (A % g)) (fun w' _ => (rest_c A g w' hA hg).mono fun v w'' h => ⟨h.1, by rw [h.2]; exact Later.refl _⟩) ?_
    repeat' (first | (simp (disch := omega) only [push_cast, ↓reduceIte, Nat.reduceEqDiff, Int.reduceToNat, Nat.reducePow, Int.reducePow, Int.reduceNeg, Nat.reduceMul, Int.reduceMul, Int.reduceAdd, Int.reduceSub, Nat.reduceAdd, Nat.reduceSub, Nat.reduceLeDiff, Int.reduceLT, Int.reduceLE, Int.reduceEq, Int.reduceMod, Int.reduceDiv, reduceCtorEq, not_true_eq_false, not_false_eq_true, c1, c2, c3, hem, ← hnd]) | refine vIfE_of (fun _ => ?_) (fun _ => ?_) | refine vIfD_of (fun _ => ?_) (fun _ => ?_) | refine vIfQ_of (fun _ => ?_) (fun _ => ?_) | refine vIfV_of (fun _ => ?_) (fun _ => ?_) | refine And.intro (by omega) ?_ | refine drawn_q ?_ | fail)
    intro w2 hl2
    have hI2 := hstab i w1 w2 _ hI hf1 (Chg.of_later hl2)
    have hf2 := hf1.chg (Chg.of_later (ks := []) hl2) (by simp)
    have ht2 := ht1.chg (Chg.of_later (ks := []) hl2) (by simp)
    have hk2 := hk1.chg (Chg.of_later (ks := []) hl2) (by simp)
    have c4 : w2.cell? ⟨kf, 0, none⟩ = some (.int .i64 A) := hf2.cell 0
    repeat' (first | (simp (disch := omega) only [push_cast, ↓reduceIte, Nat.reduceEqDiff, Int.reduceToNat, Nat.reducePow, Int.reducePow, Int.reduceNeg, Nat.reduceMul, Int.reduceMul, Int.reduceAdd, Int.reduceSub, Nat.reduceAdd, Nat.reduceSub, Nat.reduceLeDiff, Int.reduceLT, Int.reduceLE, Int.reduceEq, Int.reduceMod, Int.reduceDiv, reduceCtorEq, not_true_eq_false, not_false_eq_true, c4]) | refine vIfE_of (fun _ => ?_) (fun _ => ?_) | refine vIfD_of (fun _ => ?_) (fun _ => ?_) | refine vIfQ_of (fun _ => ?_) (fun _ => ?_) | refine vIfV_of (fun _ => ?_) (fun _ => ?_) | refine And.intro (by omega) ?_ | refine drawn_q ?_ | fail)
    have hyy := hyi w2 hI2 hlt hf2 ht2 hk2
    refine vcUp_mono hyy ?_
    rintro v w3 (⟨rfl, hI3, hf3, ht3, hk3⟩ | ⟨rfl, hJ⟩)
    · have hfz := hf3.frozen 0
      have hce : ∃ y, w3.cell? ⟨kf, 0, none⟩ = some y := ⟨_, hf3.cell 0⟩
      have g3 := chg_setCell (i := 0) w3 (ks := [kf]) (k := kf) (by simp) (.int .i64 B)
      have hf4 := hf3.set 0 (.int .i64 B)
      repeat' (first | (simp (disch := omega) only [push_cast, ↓reduceIte, Nat.reduceEqDiff, Int.reduceToNat, Nat.reducePow, Int.reducePow, Int.reduceNeg, Nat.reduceMul, Int.reduceMul, Int.reduceAdd, Int.reduceSub, Nat.reduceAdd, Nat.reduceSub, Nat.reduceLeDiff, Int.reduceLT, Int.reduceLE, Int.reduceEq, Int.reduceMod, Int.reduceDiv, reduceCtorEq, not_true_eq_false, not_false_eq_true, hfz]) | refine vIfE_of (fun _ => ?_) (fun _ => ?_) | refine vIfD_of (fun _ => ?_) (fun _ => ?_) | refine vIfQ_of (fun _ => ?_) (fun _ => ?_) | refine vIfV_of (fun _ => ?_) (fun _ => ?_) | refine And.intro (by omega) ?_ | refine drawn_q ?_ | fail)
      refine ⟨rfl, i + 1, by simp (disch := omega) only [push_cast, ↓reduceIte, Nat.reduceEqDiff, Int.reduceToNat, Nat.reducePow, Int.reducePow, Int.reduceNeg, Nat.reduceMul, Int.reduceMul, Int.reduceAdd, Int.reduceSub, Nat.reduceAdd, Nat.reduceSub, Nat.reduceLeDiff, Int.reduceLT, Int.reduceLE, Int.reduceEq, Int.reduceMod, Int.reduceDiv, reduceCtorEq, not_true_eq_false, not_false_eq_true], ⟨hstab _ _ _ _ hI3 hf3 g3, ?_, ht3.chg g3 (by simpa using d1), hk3.chg g3 (by simpa using d2)⟩, by simp only [hnx]; omega⟩
      rw [hnx]; simpa using hf4
    · repeat' (first | (simp (disch := omega) only [push_cast, ↓reduceIte, Nat.reduceEqDiff, Int.reduceToNat, Nat.reducePow, Int.reducePow, Int.reduceNeg, Nat.reduceMul, Int.reduceMul, Int.reduceAdd, Int.reduceSub, Nat.reduceAdd, Nat.reduceSub, Nat.reduceLeDiff, Int.reduceLT, Int.reduceLE, Int.reduceEq, Int.reduceMod, Int.reduceDiv, reduceCtorEq, not_true_eq_false, not_false_eq_true]) | refine vIfE_of (fun _ => ?_) (fun _ => ?_) | refine vIfD_of (fun _ => ?_) (fun _ => ?_) | refine vIfQ_of (fun _ => ?_) (fun _ => ?_) | refine vIfV_of (fun _ => ?_) (fun _ => ?_) | refine And.intro (by omega) ?_ | refine drawn_q ?_ | fail)
      exact .inr hJ
  · repeat' (first | (simp (disch := omega) only [push_cast, ↓reduceIte, Nat.reduceEqDiff, Int.reduceToNat, Nat.reducePow, Int.reducePow, Int.reduceNeg, Nat.reduceMul, Int.reduceMul, Int.reduceAdd, Int.reduceSub, Nat.reduceAdd, Nat.reduceSub, Nat.reduceLeDiff, Int.reduceLT, Int.reduceLE, Int.reduceEq, Int.reduceMod, Int.reduceDiv, reduceCtorEq, not_true_eq_false, not_false_eq_true, c1, c2, c3]) | refine vIfE_of (fun _ => ?_) (fun _ => ?_) | refine vIfD_of (fun _ => ?_) (fun _ => ?_) | refine vIfQ_of (fun _ => ?_) (fun _ => ?_) | refine vIfV_of (fun _ => ?_) (fun _ => ?_) | refine And.intro (by omega) ?_ | refine drawn_q ?_ | fail)
    exact .inl ⟨i, hlt, hI⟩
theorem stretches_c (a b g : Int) (w : World) : FnC Try.prog 35 #[.int .i64 a, .int .i64 b, .int .i64 g] w fun v w' =>
    v = .func (.func 62) #[] #[ptb w.heap.size, ptb (w.heap.size + 1), ptb (w.heap.size + 2)] ∧ Later w w' ∧ w'.heap.size = w.heap.size + 3 ∧
      Blk w' w.heap.size #[.int .i64 a] 3 ∧ Blk w' (w.heap.size + 1) #[.int .i64 b] 3 ∧ Blk w' (w.heap.size + 2) #[.int .i64 g] 3 := by
  refine enter35 _ _ _ ?_
  unfold B35 ptb
  have ec : ∀ n : Int, (Value.int .i64 n).cells = #[.int .i64 n] := fun _ => rfl
  repeat' (first | (simp (disch := omega) only [push_cast, ↓reduceIte, Nat.reduceEqDiff, Int.reduceToNat, Nat.reducePow, Int.reducePow, Int.reduceNeg, Nat.reduceMul, Int.reduceMul, Int.reduceAdd, Int.reduceSub, Nat.reduceAdd, Nat.reduceSub, Nat.reduceLeDiff, Int.reduceLT, Int.reduceLE, Int.reduceEq, Int.reduceMod, Int.reduceDiv, reduceCtorEq, not_true_eq_false, not_false_eq_true, ec]) | refine vIfE_of (fun _ => ?_) (fun _ => ?_) | refine vIfD_of (fun _ => ?_) (fun _ => ?_) | refine vIfQ_of (fun _ => ?_) (fun _ => ?_) | refine vIfV_of (fun _ => ?_) (fun _ => ?_) | refine And.intro (by omega) ?_ | refine drawn_q ?_ | fail)
  have b1 := Blk.new w #[.int .i64 a] 3
  have s1 := World.size_alloc w (.cells #[.int .i64 a] 3)
  have l1 := later_alloc w (.cells #[.int .i64 a] 3)
  generalize w.alloc (.cells #[.int .i64 a] 3) = w1 at *
  have b2 := Blk.new w1 #[.int .i64 b] 3
  have b1 := b1.alloc (.cells #[.int .i64 b] 3)
  have s2 := World.size_alloc w1 (.cells #[.int .i64 b] 3)
  have l2 := later_alloc w1 (.cells #[.int .i64 b] 3)
  generalize w1.alloc (.cells #[.int .i64 b] 3) = w2 at *
  have b3 := Blk.new w2 #[.int .i64 g] 3
  have b1 := b1.alloc (.cells #[.int .i64 g] 3)
  have b2 := b2.alloc (.cells #[.int .i64 g] 3)
  have s3 := World.size_alloc w2 (.cells #[.int .i64 g] 3)
  have l3 := later_alloc w2 (.cells #[.int .i64 g] 3)
  generalize w2.alloc (.cells #[.int .i64 g] 3) = w3 at *
  have e2 : w2.heap.size = w.heap.size + 2 := by omega
  rw [s1] at b2
  rw [e2] at b3
  rw [s1, e2]
  exact ⟨rfl, (l1.trans l2).trans l3, by omega, b1, b2, b3⟩
/-- Which error Cut answers, and which stretches. -/
def cutE (a b g : Int) : Int := if Rt g ∧ Ft a ∧ Ft b then 0 else 111
def cutL (a b g : Int) : List (Int × Int) := if cutE a b g = 0 then cuts 1000 a b g else []
def CutR (w : World) (B : Nat) (r : Value) (a b g : Int) : Prop := ∃ x, r = .tuple #[x, .int .i64 (cutE a b g)] ∧ OwnP w B 34 x (cutL a b g)
theorem cut_bad {w : World} {B : Nat} {a b g : Int} (h : ¬ (Rt g ∧ Ft a ∧ Ft b)) : CutR w B (.tuple #[.slice none 0 0, .int .i64 111]) a b g := by
  have e5 : cutE a b g = 111 := by unfold cutE; rw [if_neg h]
  have e6 : cutL a b g = [] := by unfold cutL; rw [e5]; rfl
  exact ⟨.slice none 0 0, by rw [e5], by rw [e6]; exact OwnP.nil _ _ _⟩
theorem cut_ok {w : World} {B : Nat} {a b g : Int} {x : Value} (h : Rt g ∧ Ft a ∧ Ft b) (hx : OwnP w B 34 x (cuts 1000 a b g)) : CutR w B (.tuple #[x, .int .i64 0]) a b g := by
  have e5 : cutE a b g = 0 := by unfold cutE; rw [if_pos h]
  have e6 : cutL a b g = cuts 1000 a b g := by unfold cutL; rw [if_pos e5]
  exact ⟨x, by rw [e5], by rw [e6]; exact hx⟩
/-- What holds between the rounds. -/
structure CutS (w w' : World) (L : Nat) (o : Obj) (l : List (Int × Int)) : Prop where
  rec_ : w'.heap[L]? = some o
  def_ : w'.heap[w.heap.size + 4]? = some (.deferred (some []))
  later : Later w w'
  out : ∃ ov, Blk w' w.heap.size #[ov] 22 ∧ OwnP w' w.heap.size 34 ov l
theorem CutS.fin {w w4 : World} {L : Nat} {o o' : Obj} {l : List (Int × Int)} (h : CutS w w4 L o l) (ho : o.isCells = false) (hL : L = w.heap.size + 5) :
    ∃ ov, (w4.putObj L o').cell? ⟨w.heap.size, 0, none⟩ = some ov ∧ (w4.putObj L o').heap[w.heap.size + 4]? = some (.deferred (some [])) ∧
      OwnP ((w4.putObj L o').putObj (w.heap.size + 4) (.deferred none)) w.heap.size 34 ov l ∧ Later w ((w4.putObj L o').putObj (w.heap.size + 4) (.deferred none)) := by
  obtain ⟨h1, h2, h3, ov, h4, h5⟩ := h
  have g1 := chg_putObj w4 (L := L) (ks := [L]) (by simp) o'
  have h2' := heap_chg h2 g1 (by simp; omega)
  have h5' := own_obj h5 h1 ho g1
  have g2 := chg_putObj (w4.putObj L o') (L := w.heap.size + 4) (ks := [w.heap.size + 4]) (by simp) (.deferred none)
  exact ⟨ov, (h4.chg g1 (by simp; omega)).cell 0, h2', own_obj h5' h2' rfl g2, g2.later (g1.later h3 (by simp; omega)) (by simp)⟩
set_option maxRecDepth 100000 in
theorem cut_c (a b g : Int) (w : World) (ha : I6 a) (hb : I6 b) (hg : I6 g) : FnC Try.prog 13 #[.int .i64 a, .int .i64 b, .int .i64 g] w fun r w' => CutR w' w.heap.size r a b g ∧ Later w w' := by
  refine enter13 _ _ _ ?_
  unfold B13
  repeat' (first | (simp (disch := omega) only [push_cast, ↓reduceIte, Nat.reduceEqDiff, Int.reduceToNat, Nat.reducePow, Int.reducePow, Int.reduceNeg, Nat.reduceMul, Int.reduceMul, Int.reduceAdd, Int.reduceSub, Nat.reduceAdd, Nat.reduceSub, Nat.reduceLeDiff, Int.reduceLT, Int.reduceLE, Int.reduceEq, Int.reduceMod, Int.reduceDiv, reduceCtorEq, not_true_eq_false, not_false_eq_true]) | refine vIfE_of (fun _ => ?_) (fun _ => ?_) | refine vIfD_of (fun _ => ?_) (fun _ => ?_) | refine vIfQ_of (fun _ => ?_) (fun _ => ?_) | refine vIfV_of (fun _ => ?_) (fun _ => ?_) | refine And.intro (by omega) ?_ | refine drawn_q ?_ | fail)
  refine (bright_c g w hg).mono ?_
  rintro _ w0 ⟨rfl, hw⟩
  obtain rfl := hw.symm
  by_cases hR : Rt g
  case neg =>
    repeat' (first | (simp (disch := omega) only [push_cast, ↓reduceIte, Nat.reduceEqDiff, Int.reduceToNat, Nat.reducePow, Int.reducePow, Int.reduceNeg, Nat.reduceMul, Int.reduceMul, Int.reduceAdd, Int.reduceSub, Nat.reduceAdd, Nat.reduceSub, Nat.reduceLeDiff, Int.reduceLT, Int.reduceLE, Int.reduceEq, Int.reduceMod, Int.reduceDiv, reduceCtorEq, not_true_eq_false, not_false_eq_true, hR, decide_true, decide_false]) | refine vIfE_of (fun _ => ?_) (fun _ => ?_) | refine vIfD_of (fun _ => ?_) (fun _ => ?_) | refine vIfQ_of (fun _ => ?_) (fun _ => ?_) | refine vIfV_of (fun _ => ?_) (fun _ => ?_) | refine And.intro (by omega) ?_ | refine drawn_q ?_ | fail)
    exact ⟨cut_bad (fun h => hR h.1), Later.refl _⟩
  repeat' (first | (simp (disch := omega) only [push_cast, ↓reduceIte, Nat.reduceEqDiff, Int.reduceToNat, Nat.reducePow, Int.reducePow, Int.reduceNeg, Nat.reduceMul, Int.reduceMul, Int.reduceAdd, Int.reduceSub, Nat.reduceAdd, Nat.reduceSub, Nat.reduceLeDiff, Int.reduceLT, Int.reduceLE, Int.reduceEq, Int.reduceMod, Int.reduceDiv, reduceCtorEq, not_true_eq_false, not_false_eq_true, hR, decide_true, decide_false]) | refine vIfE_of (fun _ => ?_) (fun _ => ?_) | refine vIfD_of (fun _ => ?_) (fun _ => ?_) | refine vIfQ_of (fun _ => ?_) (fun _ => ?_) | refine vIfV_of (fun _ => ?_) (fun _ => ?_) | refine And.intro (by omega) ?_ | refine drawn_q ?_ | fail)
  refine (bfits_c a w ha).mono ?_
  rintro _ w0 ⟨rfl, hw⟩
  obtain rfl := hw.symm
  by_cases hA : Ft a
  case neg =>
    repeat' (first | (simp (disch := omega) only [push_cast, ↓reduceIte, Nat.reduceEqDiff, Int.reduceToNat, Nat.reducePow, Int.reducePow, Int.reduceNeg, Nat.reduceMul, Int.reduceMul, Int.reduceAdd, Int.reduceSub, Nat.reduceAdd, Nat.reduceSub, Nat.reduceLeDiff, Int.reduceLT, Int.reduceLE, Int.reduceEq, Int.reduceMod, Int.reduceDiv, reduceCtorEq, not_true_eq_false, not_false_eq_true, hA, decide_true, decide_false]) | refine vIfE_of (fun _ => ?_) (fun _ => ?_) | refine vIfD_of (fun _ => ?_) (fun _ => ?_) | refine vIfQ_of (fun _ => ?_) (fun _ => ?_) | refine vIfV_of (fun _ => ?_) (fun _ => ?_) | refine And.intro (by omega) ?_ | refine drawn_q ?_ | fail)
    exact ⟨cut_bad (fun h => hA h.2.1), Later.refl _⟩
  repeat' (first | (simp (disch := omega) only [push_cast, ↓reduceIte, Nat.reduceEqDiff, Int.reduceToNat, Nat.reducePow, Int.reducePow, Int.reduceNeg, Nat.reduceMul, Int.reduceMul, Int.reduceAdd, Int.reduceSub, Nat.reduceAdd, Nat.reduceSub, Nat.reduceLeDiff, Int.reduceLT, Int.reduceLE, Int.reduceEq, Int.reduceMod, Int.reduceDiv, reduceCtorEq, not_true_eq_false, not_false_eq_true, hA, decide_true, decide_false]) | refine vIfE_of (fun _ => ?_) (fun _ => ?_) | refine vIfD_of (fun _ => ?_) (fun _ => ?_) | refine vIfQ_of (fun _ => ?_) (fun _ => ?_) | refine vIfV_of (fun _ => ?_) (fun _ => ?_) | refine And.intro (by omega) ?_ | refine drawn_q ?_ | fail)
  refine (bfits_c b w hb).mono ?_
  rintro _ w0 ⟨rfl, hw⟩
  obtain rfl := hw.symm
  by_cases hB : Ft b
  case neg =>
    repeat' (first | (simp (disch := omega) only [push_cast, ↓reduceIte, Nat.reduceEqDiff, Int.reduceToNat, Nat.reducePow, Int.reducePow, Int.reduceNeg, Nat.reduceMul, Int.reduceMul, Int.reduceAdd, Int.reduceSub, Nat.reduceAdd, Nat.reduceSub, Nat.reduceLeDiff, Int.reduceLT, Int.reduceLE, Int.reduceEq, Int.reduceMod, Int.reduceDiv, reduceCtorEq, not_true_eq_false, not_false_eq_true, hB, decide_true, decide_false]) | refine vIfE_of (fun _ => ?_) (fun _ => ?_) | refine vIfD_of (fun _ => ?_) (fun _ => ?_) | refine vIfQ_of (fun _ => ?_) (fun _ => ?_) | refine vIfV_of (fun _ => ?_) (fun _ => ?_) | refine And.intro (by omega) ?_ | refine drawn_q ?_ | fail)
    exact ⟨cut_bad (fun h => hB h.2.2), Later.refl _⟩
  repeat' (first | (simp (disch := omega) only [push_cast, ↓reduceIte, Nat.reduceEqDiff, Int.reduceToNat, Nat.reducePow, Int.reducePow, Int.reduceNeg, Nat.reduceMul, Int.reduceMul, Int.reduceAdd, Int.reduceSub, Nat.reduceAdd, Nat.reduceSub, Nat.reduceLeDiff, Int.reduceLT, Int.reduceLE, Int.reduceEq, Int.reduceMod, Int.reduceDiv, reduceCtorEq, not_true_eq_false, not_false_eq_true, hB, decide_true, decide_false]) | refine vIfE_of (fun _ => ?_) (fun _ => ?_) | refine vIfD_of (fun _ => ?_) (fun _ => ?_) | refine vIfQ_of (fun _ => ?_) (fun _ => ?_) | refine vIfV_of (fun _ => ?_) (fun _ => ?_) | refine And.intro (by omega) ?_ | refine drawn_q ?_ | fail)
  have B0 := Blk.new w #[.slice none 0 0] 22
  have s0 := World.size_alloc w (.cells #[.slice none 0 0] 22)
  have l0 := later_alloc w (.cells #[.slice none 0 0] 22)
  generalize w.alloc (.cells #[.slice none 0 0] 22) = w1 at *
  refine (stretches_c a b g w1).mono ?_
  rintro _ w2 ⟨rfl, hl2, hs2, bf, bt, bk⟩
  have B2 := B0.chg (Chg.of_later (ks := []) hl2) (by simp)
  have hl02 := l0.trans hl2
  rw [s0] at bf bt bk hs2 ⊢
  repeat' (first | (simp (disch := omega) only [push_cast, ↓reduceIte, Nat.reduceEqDiff, Int.reduceToNat, Nat.reducePow, Int.reducePow, Int.reduceNeg, Nat.reduceMul, Int.reduceMul, Int.reduceAdd, Int.reduceSub, Nat.reduceAdd, Nat.reduceSub, Nat.reduceLeDiff, Int.reduceLT, Int.reduceLE, Int.reduceEq, Int.reduceMod, Int.reduceDiv, reduceCtorEq, not_true_eq_false, not_false_eq_true]) | refine vIfE_of (fun _ => ?_) (fun _ => ?_) | refine vIfD_of (fun _ => ?_) (fun _ => ?_) | refine vIfQ_of (fun _ => ?_) (fun _ => ?_) | refine vIfV_of (fun _ => ?_) (fun _ => ?_) | refine And.intro (by omega) ?_ | refine drawn_q ?_ | fail)
  refine rngC_of hb62 ?_
  rintro D L rec hrec hD hL hyl
  have hDe : D = w.heap.size + 4 := by omega
  have hLe : L = w.heap.size + 5 := by omega
  have hrL : ((w2.alloc (.deferred (some []))).alloc (rec .ready .normal)).heap[L]? = some (rec .ready .normal) := by
    have := World.alloc_heap_new (w2.alloc (.deferred (some []))) (rec .ready .normal)
    rw [World.size_alloc] at this
    rw [hL]; exact this
  have hrD : ((w2.alloc (.deferred (some []))).alloc (rec .ready .normal)).heap[D]? = some (.deferred (some [])) := by
    rw [hD]
    exact heap_later (World.alloc_heap_new w2 _) (later_alloc _ _)
  have hl3 := later_two w2 (.deferred (some [])) (rec .ready .normal)
  generalize (w2.alloc (.deferred (some []))).alloc (rec .ready .normal) = w3 at *
  have hl03 := hl02.trans hl3
  have bf3 := bf.chg (Chg.of_later (ks := []) hl3) (by simp)
  have bt3 := bt.chg (Chg.of_later (ks := []) hl3) (by simp)
  have bk3 := bk.chg (Chg.of_later (ks := []) hl3) (by simp)
  have B3 := B2.chg (Chg.of_later (ks := []) hl3) (by simp)
  subst hDe
  have hstc := stretch_c L (w.heap.size + 1) (w.heap.size + 1 + 1) (w.heap.size + 1 + 2) a b g hR hA hB (fun i w' => i ≤ 1000 ∧ CutS w w' L (rec .ready .normal) (cuts i a b g)) (fun w' => CutS w w' L (rec .done (.exit 0)) (cuts 1000 a b g)) w3 bf3 bt3 bk3 (by omega) (by omega)
    ⟨by omega, hrL, hrD, hl03, _, B3, OwnP.nil _ _ _⟩ ?_ ?_
  · refine hstc.mono ?_
    rintro _ w4 (⟨i, hend, hi, hS⟩ | hS)
    · have hm := (cuts_more hend (1000 - i)).1
      have e1 : i + (1000 - i) = 1000 := by omega
      rw [e1] at hm
      obtain ⟨ov, c1, hd, ho, hl⟩ := hS.fin (o' := rec .exhausted .normal) (hrec _ _) hLe
      refine .inl ⟨hS.rec_, ?_⟩
      repeat' (first | (simp (disch := omega) only [push_cast, ↓reduceIte, Nat.reduceEqDiff, Int.reduceToNat, Nat.reducePow, Int.reducePow, Int.reduceNeg, Nat.reduceMul, Int.reduceMul, Int.reduceAdd, Int.reduceSub, Nat.reduceAdd, Nat.reduceSub, Nat.reduceLeDiff, Int.reduceLT, Int.reduceLE, Int.reduceEq, Int.reduceMod, Int.reduceDiv, reduceCtorEq, not_true_eq_false, not_false_eq_true, c1]) | refine vIfE_of (fun _ => ?_) (fun _ => ?_) | refine vIfD_of (fun _ => ?_) (fun _ => ?_) | refine vIfQ_of (fun _ => ?_) (fun _ => ?_) | refine vIfV_of (fun _ => ?_) (fun _ => ?_) | refine And.intro (by omega) ?_ | refine drawn_q ?_ | fail)
      refine ⟨cut_ok ⟨hR, hA, hB⟩ ?_, hl⟩
      rw [hm]; exact ho
    · obtain ⟨ov, c1, hd, ho, hl⟩ := hS.fin (o' := rec .exhausted (.exit 0)) (hrec _ _) hLe
      refine .inr (.inr ⟨0, hS.rec_, ?_⟩)
      repeat' (first | (simp (disch := omega) only [push_cast, ↓reduceIte, Nat.reduceEqDiff, Int.reduceToNat, Nat.reducePow, Int.reducePow, Int.reduceNeg, Nat.reduceMul, Int.reduceMul, Int.reduceAdd, Int.reduceSub, Nat.reduceAdd, Nat.reduceSub, Nat.reduceLeDiff, Int.reduceLT, Int.reduceLE, Int.reduceEq, Int.reduceMod, Int.reduceDiv, reduceCtorEq, not_true_eq_false, not_false_eq_true, c1]) | refine vIfE_of (fun _ => ?_) (fun _ => ?_) | refine vIfD_of (fun _ => ?_) (fun _ => ?_) | refine vIfQ_of (fun _ => ?_) (fun _ => ?_) | refine vIfV_of (fun _ => ?_) (fun _ => ?_) | refine And.intro (by omega) ?_ | refine drawn_q ?_ | fail)
      exact ⟨cut_ok ⟨hR, hA, hB⟩ ho, hl⟩
  · rintro i u1 u2 x ⟨hi, h1, h2, h3, ov, h4, h5⟩ hk hgc
    refine ⟨hi, heap_chg h1 hgc (by simp; omega), heap_chg h2 hgc (by simp), hgc.later h3 (by simp), ov, h4.chg hgc (by simp), own_chg_ty h5 hk (by decide) hgc⟩
  · rintro i u1 ⟨hi, h1, h2, h3, ov, h4, h5⟩ hlt hkf hkt hkg
    refine hyl _ u1 _ ?_
    unfold Rnd
    refine ⟨h1, rfl, ?_⟩
    have hend := endOf_le (n := i) (a := a) (b := b) (g := g) (by omega)
    have hfull := cuts_full hlt
    have hsn := (cuts_snoc i a b g).1
    rw [if_pos hlt] at hsn
    generalize endOf i a b g = A at *
    generalize hNN : Bkt.nxt A b g = N at *
    repeat' (first | (simp (disch := omega) only [push_cast, ↓reduceIte, Nat.reduceEqDiff, Int.reduceToNat, Nat.reducePow, Int.reducePow, Int.reduceNeg, Nat.reduceMul, Int.reduceMul, Int.reduceAdd, Int.reduceSub, Nat.reduceAdd, Nat.reduceSub, Nat.reduceLeDiff, Int.reduceLT, Int.reduceLE, Int.reduceEq, Int.reduceMod, Int.reduceDiv, reduceCtorEq, not_true_eq_false, not_false_eq_true]) | refine vIfE_of (fun _ => ?_) (fun _ => ?_) | refine vIfD_of (fun _ => ?_) (fun _ => ?_) | refine vIfQ_of (fun _ => ?_) (fun _ => ?_) | refine vIfV_of (fun _ => ?_) (fun _ => ?_) | refine And.intro (by omega) ?_ | refine drawn_q ?_ | fail)
    refine vStore_new rfl rfl (by intro u hu; simp only [List.mem_cons, List.not_mem_nil, or_false] at hu; rcases hu with rfl | rfl <;> rfl) ?_
    have l2 := later_alloc u1 (.cells #[.int .i64 A, .int .i64 N] 34)
    have Ba := Blk.new u1 #[.int .i64 A, .int .i64 N] 34
    have hu1L : L < u1.heap.size := (Array.getElem?_eq_some_iff.1 h1).1
    generalize hka : u1.heap.size = ka at *
    generalize u1.alloc (.cells #[.int .i64 A, .int .i64 N] 34) = u2 at *
    have r1 := heap_later h1 l2
    have r2 := heap_later h2 l2
    have r3 := h3.trans l2
    have r4 := h4.chg (Chg.of_later (ks := []) l2) (by simp)
    have r5 := h5.later l2
    have rf := hkf.chg (Chg.of_later (ks := []) l2) (by simp)
    have rt := hkt.chg (Chg.of_later (ks := []) l2) (by simp)
    have rk := hkg.chg (Chg.of_later (ks := []) l2) (by simp)
    repeat' (first | (simp (disch := omega) only [push_cast, ↓reduceIte, Nat.reduceEqDiff, Int.reduceToNat, Nat.reducePow, Int.reducePow, Int.reduceNeg, Nat.reduceMul, Int.reduceMul, Int.reduceAdd, Int.reduceSub, Nat.reduceAdd, Nat.reduceSub, Nat.reduceLeDiff, Int.reduceLT, Int.reduceLE, Int.reduceEq, Int.reduceMod, Int.reduceDiv, reduceCtorEq, not_true_eq_false, not_false_eq_true]) | refine vIfE_of (fun _ => ?_) (fun _ => ?_) | refine vIfD_of (fun _ => ?_) (fun _ => ?_) | refine vIfQ_of (fun _ => ?_) (fun _ => ?_) | refine vIfV_of (fun _ => ?_) (fun _ => ?_) | refine And.intro (by omega) ?_ | refine drawn_q ?_ | fail)
    have gL := chg_putObj u2 (L := L) (ks := [L]) (by simp) (rec .busy .normal)
    have q1 : (u2.putObj L (rec .busy .normal)).heap[L]? = some (rec .busy .normal) := World.putObj_heap_same (Array.getElem?_eq_some_iff.1 r1).1
    have q2 := heap_chg r2 gL (by simp; omega)
    have q3 := gL.later r3 (by simp; omega)
    have q4 := r4.chg gL (by simp; omega)
    have q5 := own_obj r5 r1 (hrec _ _) gL
    have qf := rf.chg gL (by simp; omega)
    have qt := rt.chg gL (by simp; omega)
    have qk := rk.chg gL (by simp; omega)
    have qa := Ba.chg gL (by simp; omega)
    generalize u2.putObj L (rec .busy .normal) = u3 at *
    have q5 : OwnP u3 w.heap.size 34 ov (cuts i a b g) := q5
    obtain ⟨oo, cc, rfl, hcc, hcc2⟩ := q5.s.slice
    rw [hfull] at hcc
    have c0 : u3.cell? ⟨w.heap.size, 0, none⟩ = some (.slice oo i cc) := by
      have := q4.cell 0
      rw [hfull] at this; exact this
    have ca : cellsAt u3 ⟨ka, 0, none⟩ 2 = some [.int .i64 A, .int .i64 N] := Blk.cellsAt (l := [.int .i64 A, .int .i64 N]) qa
    by_cases hk : i = 1000
    · subst hk
      repeat' (first | (simp (disch := omega) only [push_cast, ↓reduceIte, Nat.reduceEqDiff, Int.reduceToNat, Nat.reducePow, Int.reducePow, Int.reduceNeg, Nat.reduceMul, Int.reduceMul, Int.reduceAdd, Int.reduceSub, Nat.reduceAdd, Nat.reduceSub, Nat.reduceLeDiff, Int.reduceLT, Int.reduceLE, Int.reduceEq, Int.reduceMod, Int.reduceDiv, reduceCtorEq, not_true_eq_false, not_false_eq_true, c0]) | refine vIfE_of (fun _ => ?_) (fun _ => ?_) | refine vIfD_of (fun _ => ?_) (fun _ => ?_) | refine vIfQ_of (fun _ => ?_) (fun _ => ?_) | refine vIfV_of (fun _ => ?_) (fun _ => ?_) | refine And.intro (by omega) ?_ | refine drawn_q ?_ | fail)
      have gD := chg_putObj u3 (L := L) (ks := [L]) (by simp) (rec .done (.exit 0))
      exact .inr ⟨World.putObj_heap_same (Array.getElem?_eq_some_iff.1 q1).1, heap_chg q2 gD (by simp; omega), gD.later q3 (by simp; omega), _, q4.chg gD (by simp; omega), own_obj q5 q1 (hrec _ _) gD⟩
    · repeat' (first | (simp (disch := omega) only [push_cast, ↓reduceIte, Nat.reduceEqDiff, Int.reduceToNat, Nat.reducePow, Int.reducePow, Int.reduceNeg, Nat.reduceMul, Int.reduceMul, Int.reduceAdd, Int.reduceSub, Nat.reduceAdd, Nat.reduceSub, Nat.reduceLeDiff, Int.reduceLT, Int.reduceLE, Int.reduceEq, Int.reduceMod, Int.reduceDiv, reduceCtorEq, not_true_eq_false, not_false_eq_true, c0, ca]) | refine vIfE_of (fun _ => ?_) (fun _ => ?_) | refine vIfD_of (fun _ => ?_) (fun _ => ?_) | refine vIfQ_of (fun _ => ?_) (fun _ => ?_) | refine vIfV_of (fun _ => ?_) (fun _ => ?_) | refine And.intro (by omega) ?_ | refine drawn_q ?_ | fail)
      have q5' := q5
      rw [hfull] at q5'
      refine vAppend_pair Try.underlying22 ti34 rfl (B := w.heap.size) (x := A) (y := N) (l := cuts i a b g) q5' (by rw [hfull]; unfold maxLen; omega) (by rw [hfull]; omega) (by have := q3.size; omega) ?_
      intro v' u5 ho hg2 hlk
      have la := later_alloc u3 (.cells #[.int .i64 A, .int .i64 N] 34)
      have t5 := q5'.later la
      have v1 := grown_obj t5 hg2 (heap_later q1 la) (not_cells (hrec _ _) _)
      have v2 := grown_obj t5 hg2 (heap_later q2 la) (not_cells rfl _)
      have v4 : Blk u5 w.heap.size _ 22 := grown_obj t5 hg2 (heap_later q4 la) (fun cs h => by simp at h)
      have vf : Blk u5 _ _ 3 := grown_obj t5 hg2 (heap_later qf la) (fun cs h => by simp at h)
      have vt : Blk u5 _ _ 3 := grown_obj t5 hg2 (heap_later qt la) (fun cs h => by simp at h)
      have vk : Blk u5 _ _ 3 := grown_obj t5 hg2 (heap_later qk la) (fun cs h => by simp at h)
      have v3 := hlk w q3 (Nat.le_refl _)
      rw [← hsn] at ho
      have ho : OwnP u5 w.heap.size 34 v' (cuts (i + 1) a b g) := ho
      obtain ⟨o2, c2, hv2, hc2, hc3⟩ := ho.s.slice
      have hlen : (cuts (i + 1) a b g).length = i + 1 := by rw [hsn]; simp [hfull]
      rw [hlen] at hv2
      subst hv2
      have hfz := v4.frozen 0
      have hce : ∃ y, u5.cell? ⟨w.heap.size, 0, none⟩ = some y := ⟨_, v4.cell 0⟩
      have g3 := chg_setCell (i := 0) u5 (ks := [w.heap.size]) (k := w.heap.size) (by simp) (.slice o2 (i + 1) c2)
      have z4 := v4.set 0 (.slice o2 (i + 1) c2)
      repeat' (first | (simp (disch := omega) only [push_cast, ↓reduceIte, Nat.reduceEqDiff, Int.reduceToNat, Nat.reducePow, Int.reducePow, Int.reduceNeg, Nat.reduceMul, Int.reduceMul, Int.reduceAdd, Int.reduceSub, Nat.reduceAdd, Nat.reduceSub, Nat.reduceLeDiff, Int.reduceLT, Int.reduceLE, Int.reduceEq, Int.reduceMod, Int.reduceDiv, reduceCtorEq, not_true_eq_false, not_false_eq_true, hfz]) | refine vIfE_of (fun _ => ?_) (fun _ => ?_) | refine vIfD_of (fun _ => ?_) (fun _ => ?_) | refine vIfQ_of (fun _ => ?_) (fun _ => ?_) | refine vIfV_of (fun _ => ?_) (fun _ => ?_) | refine And.intro (by omega) ?_ | refine drawn_q ?_ | fail)
      have z1 := heap_chg v1 g3 (by simp; omega)
      have z2 := heap_chg v2 g3 (by simp)
      have z3 := g3.later v3 (by simp)
      have z5 := own_chg_ty ho v4 (by decide) g3
      have zf := vf.chg g3 (by simp)
      have zt := vt.chg g3 (by simp; omega)
      have zk := vk.chg g3 (by simp; omega)
      generalize u5.setCell ⟨w.heap.size, 0, none⟩ (.slice o2 (i + 1) c2) = u6 at *
      have gE := chg_putObj u6 (L := L) (ks := [L]) (by simp) (rec .ready .normal)
      repeat' (first | (simp (disch := omega) only [push_cast, ↓reduceIte, Nat.reduceEqDiff, Int.reduceToNat, Nat.reducePow, Int.reducePow, Int.reduceNeg, Nat.reduceMul, Int.reduceMul, Int.reduceAdd, Int.reduceSub, Nat.reduceAdd, Nat.reduceSub, Nat.reduceLeDiff, Int.reduceLT, Int.reduceLE, Int.reduceEq, Int.reduceMod, Int.reduceDiv, reduceCtorEq, not_true_eq_false, not_false_eq_true]) | refine vIfE_of (fun _ => ?_) (fun _ => ?_) | refine vIfD_of (fun _ => ?_) (fun _ => ?_) | refine vIfQ_of (fun _ => ?_) (fun _ => ?_) | refine vIfV_of (fun _ => ?_) (fun _ => ?_) | refine And.intro (by omega) ?_ | refine drawn_q ?_ | fail)
      refine .inl ⟨⟨by omega, World.putObj_heap_same (Array.getElem?_eq_some_iff.1 z1).1, heap_chg z2 gE (by simp; omega), gE.later z3 (by simp; omega), _, z4.chg gE (by simp; omega), own_obj z5 z1 (hrec _ _) gE⟩, zf.chg gE (by simp; omega), zt.chg gE (by simp; omega), zk.chg gE (by simp; omega)⟩
end Go.Proofs.Ytdfdohajjgjbdaa
