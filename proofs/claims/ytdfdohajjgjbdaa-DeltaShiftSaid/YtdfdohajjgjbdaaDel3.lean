/- Contracts: a list of the steps (a range over a function that appends). -/
import Derived.Test.YtdfdohajjgjbdaaDel2
set_option linter.unusedSimpArgs false
namespace Go.Proofs.Ytdfdohajjgjbdaa
open Go.Vc Go.Del
/-- What holds between the rounds of a loop over a function that appends to what lies in a block. -/
structure LpS (w w' : World) (ko L D : Nat) (o : Obj) (t e : TypeId) (vs : List Value) : Prop where
  rec_ : w'.heap[L]? = some o
  def_ : w'.heap[D]? = some (.deferred (some []))
  later : Later w w'
  out : ∃ ov, Blk w' ko #[ov] t ∧ w'.ownsRow w.heap.size e 1 ov vs.length vs
theorem LpS.step {w w1 w2 : World} {ko L D : Nat} {o : Obj} {t e : TypeId} {vs : List Value} (h : LpS w w1 ko L D o t e vs) (hl : Later w1 w2) : LpS w w2 ko L D o t e vs := by
  obtain ⟨h1, h2, h3, ov, h4, h5⟩ := h
  exact ⟨heap_later h1 hl, heap_later h2 hl, h3.trans hl, ov, h4.chg (Chg.of_later (ks := []) hl) (by simp), own_later h5 hl⟩
theorem LpS.fin {w w4 : World} {ko L D : Nat} {o o' : Obj} {t e : TypeId} {vs : List Value} (h : LpS w w4 ko L D o t e vs) (ho : o.isCells = false) (h0 : ko ≠ L) (h1 : D ≠ L) (h2 : ko ≠ D) (h3 : w.heap.size ≤ L) (h4 : w.heap.size ≤ D) :
    ∃ ov, (w4.putObj L o').cell? ⟨ko, 0, none⟩ = some ov ∧ (w4.putObj L o').heap[D]? = some (.deferred (some [])) ∧
      ((w4.putObj L o').putObj D (.deferred none)).ownsRow w.heap.size e 1 ov vs.length vs ∧ Later w ((w4.putObj L o').putObj D (.deferred none)) ∧ Blk ((w4.putObj L o').putObj D (.deferred none)) ko #[ov] t ∧
      (∀ k cs t', k ≠ L → k ≠ D → Blk w4 k cs t' → Blk ((w4.putObj L o').putObj D (.deferred none)) k cs t') := by
  obtain ⟨r1, r2, r3, ov, r4, r5⟩ := h
  have g1 := chg_putObj w4 (L := L) (ks := [L]) (by simp) o'
  have r2' := heap_chg r2 g1 (by simp; exact h1)
  have r5' := own_obj r5 r1 ho g1
  have g2 := chg_putObj (w4.putObj L o') (L := D) (ks := [D]) (by simp) (.deferred none)
  refine ⟨ov, (r4.chg g1 (by simp; exact h0)).cell 0, r2', own_obj r5' r2' rfl g2, g2.later (g1.later r3 (by simpa using h3)) (by simpa using h4), (r4.chg g1 (by simp; exact h0)).chg g2 (by simp; exact h2), ?_⟩
  intro k cs t' hk1 hk2 hb
  exact (hb.chg g1 (by simp; exact hk1)).chg g2 (by simp; exact hk2)
set_option maxRecDepth 100000 in
theorem appendSeq_c (kl : Nat) (o : Option Addr) (c : Nat) (l : List Int) (w : World) (hk : Blk w kl #[.slice o l.length c] 35) (hs : Sl w (.slice o l.length c) (l.map i64v)) (hl : l.length ≤ 65536) :
    FnC Try.prog 64 #[.slice none 0 0, .func (.func 65) #[] #[ptb kl]] w fun v w' => OwnI w' w.heap.size 3 v (stp l) ∧ Later w w' := by
  have hkl : kl < w.heap.size := Blk.lt hk
  refine enter64 _ _ ?_
  unfold B64 ptb
  have ec : (Value.slice none 0 0).cells = #[.slice none 0 0] := rfl
  repeat' (first | (simp (disch := omega) only [push_cast, ↓reduceIte, Nat.reduceEqDiff, Int.reduceToNat, Nat.reducePow, Int.reducePow, Int.reduceNeg, Nat.reduceMul, Int.reduceMul, Int.reduceAdd, Int.reduceSub, Nat.reduceAdd, Nat.reduceSub, Nat.reduceLeDiff, Int.reduceLT, Int.reduceLE, Int.reduceEq, Int.reduceMod, Int.reduceDiv, reduceCtorEq, not_true_eq_false, not_false_eq_true, ec]) | refine vIfE_of (fun _ => ?_) (fun _ => ?_) | refine vIfD_of (fun _ => ?_) (fun _ => ?_) | refine vIfQ_of (fun _ => ?_) (fun _ => ?_) | refine vIfV_of (fun _ => ?_) (fun _ => ?_) | refine And.intro (by omega) ?_ | refine drawn_q ?_ | fail)
  have B0 := Blk.new w #[.slice none 0 0] 35
  have s0 := World.size_alloc w (.cells #[.slice none 0 0] 35)
  have l0 := later_alloc w (.cells #[.slice none 0 0] 35)
  generalize w.alloc (.cells #[.slice none 0 0] 35) = w1 at *
  refine rngC_of hb65 ?_
  rintro D L rec hrec hD hL hyl
  have hDe : D = w.heap.size + 1 := by omega
  have hLe : L = w.heap.size + 2 := by omega
  have hrL : ((w1.alloc (.deferred (some []))).alloc (rec .ready .normal)).heap[L]? = some (rec .ready .normal) := by
    have := World.alloc_heap_new (w1.alloc (.deferred (some []))) (rec .ready .normal)
    rw [World.size_alloc] at this
    rw [hL]; exact this
  have hrD : ((w1.alloc (.deferred (some []))).alloc (rec .ready .normal)).heap[D]? = some (.deferred (some [])) := by
    rw [hD]
    exact heap_later (World.alloc_heap_new w1 _) (later_alloc _ _)
  have hl3 := later_two w1 (.deferred (some [])) (rec .ready .normal)
  generalize (w1.alloc (.deferred (some []))).alloc (rec .ready .normal) = w3 at *
  have hl03 := l0.trans hl3
  have hk3 := hk.chg (Chg.of_later (ks := []) hl03) (by simp)
  have hs3 := hs.later hl03
  have B3 := B0.chg (Chg.of_later (ks := []) hl3) (by simp)
  subst hDe
  have hstc := step_c L kl o c l (fun i w' => i ≤ l.length - 1 ∧ LpS w w' w.heap.size L (w.heap.size + 1) (rec .ready .normal) 35 3 ((stN l i).map i64v)) (fun _ => False) w3 hk3 hs3 (by omega)
    ⟨by omega, hrL, hrD, hl03, _, B3, own_nil _ _ _ _⟩ (fun i w1 w2 h hl => ⟨h.1, h.2.step hl⟩) ?_
  · refine hstc.mono ?_
    rintro _ w4 (⟨_, hS⟩ | hF)
    · obtain ⟨ov, c1, hd, ho, hlat, _⟩ := hS.fin (o' := rec .exhausted .normal) (hrec _ _) (by omega) (by omega) (by omega) (by omega) (by omega)
      refine .inl ⟨hS.rec_, ?_⟩
      repeat' (first | (simp (disch := omega) only [push_cast, ↓reduceIte, Nat.reduceEqDiff, Int.reduceToNat, Nat.reducePow, Int.reducePow, Int.reduceNeg, Nat.reduceMul, Int.reduceMul, Int.reduceAdd, Int.reduceSub, Nat.reduceAdd, Nat.reduceSub, Nat.reduceLeDiff, Int.reduceLT, Int.reduceLE, Int.reduceEq, Int.reduceMod, Int.reduceDiv, reduceCtorEq, not_true_eq_false, not_false_eq_true, c1]) | refine vIfE_of (fun _ => ?_) (fun _ => ?_) | refine vIfD_of (fun _ => ?_) (fun _ => ?_) | refine vIfQ_of (fun _ => ?_) (fun _ => ?_) | refine vIfV_of (fun _ => ?_) (fun _ => ?_) | refine And.intro (by omega) ?_ | refine drawn_q ?_ | fail)
      refine ⟨?_, hlat⟩
      unfold OwnI Del.stp
      simpa using ho
    · exact hF.elim
  · rintro i u1 ⟨hi, h1, h2, h3, ov, h4, h5⟩ hlt hk1 hs1
    refine hyl _ u1 _ ?_
    unfold Rnd
    refine ⟨h1, rfl, ?_⟩
    repeat' (first | (simp (disch := omega) only [push_cast, ↓reduceIte, Nat.reduceEqDiff, Int.reduceToNat, Nat.reducePow, Int.reducePow, Int.reduceNeg, Nat.reduceMul, Int.reduceMul, Int.reduceAdd, Int.reduceSub, Nat.reduceAdd, Nat.reduceSub, Nat.reduceLeDiff, Int.reduceLT, Int.reduceLE, Int.reduceEq, Int.reduceMod, Int.reduceDiv, reduceCtorEq, not_true_eq_false, not_false_eq_true]) | refine vIfE_of (fun _ => ?_) (fun _ => ?_) | refine vIfD_of (fun _ => ?_) (fun _ => ?_) | refine vIfQ_of (fun _ => ?_) (fun _ => ?_) | refine vIfV_of (fun _ => ?_) (fun _ => ?_) | refine And.intro (by omega) ?_ | refine drawn_q ?_ | fail)
    have gL := chg_putObj u1 (L := L) (ks := [L]) (by simp) (rec .busy .normal)
    have q1 : (u1.putObj L (rec .busy .normal)).heap[L]? = some (rec .busy .normal) := World.putObj_heap_same (Array.getElem?_eq_some_iff.1 h1).1
    have q2 := heap_chg h2 gL (by simp; omega)
    have q3 := gL.later h3 (by simp; omega)
    have q4 := h4.chg gL (by simp; omega)
    have q5 := own_obj h5 h1 (hrec _ _) gL
    have qk := hk1.chg gL (by simp; omega)
    generalize u1.putObj L (rec .busy .normal) = u3 at *
    simp only [List.length_map, stN_len] at q5
    have q5s : OwnI u3 w.heap.size 3 ov (stN l i) := by
      unfold OwnI; rw [stN_len]; exact q5
    obtain ⟨oo, cc, rfl⟩ := q5s.slice
    have c0 : u3.cell? ⟨w.heap.size, 0, none⟩ = some (.slice oo (stN l i).length cc) := q4.cell 0
    rw [stN_len] at c0 q4 q5
    repeat' (first | (simp (disch := omega) only [push_cast, ↓reduceIte, Nat.reduceEqDiff, Int.reduceToNat, Nat.reducePow, Int.reducePow, Int.reduceNeg, Nat.reduceMul, Int.reduceMul, Int.reduceAdd, Int.reduceSub, Nat.reduceAdd, Nat.reduceSub, Nat.reduceLeDiff, Int.reduceLT, Int.reduceLE, Int.reduceEq, Int.reduceMod, Int.reduceDiv, reduceCtorEq, not_true_eq_false, not_false_eq_true, c0]) | refine vIfE_of (fun _ => ?_) (fun _ => ?_) | refine vIfD_of (fun _ => ?_) (fun _ => ?_) | refine vIfQ_of (fun _ => ?_) (fun _ => ?_) | refine vIfV_of (fun _ => ?_) (fun _ => ?_) | refine And.intro (by omega) ?_ | refine drawn_q ?_ | fail)
    refine vAppend_oneG Try.underlying35 ti3 rfl q5 rfl (by unfold maxLen; omega) (by omega) q3.size ?_
    intro v' u5 ho hg2 hlk
    have la := later_alloc u3 (.cells #[.int .i64 (stp1 l i)] 3)
    have t5 := own_later q5 la
    have v1 := grown_obj t5 hg2 (heap_later q1 la) (not_cells (hrec _ _) _)
    have v2 := grown_obj t5 hg2 (heap_later q2 la) (not_cells rfl _)
    have v4 : Blk u5 w.heap.size _ 35 := grown_obj t5 hg2 (heap_later q4 la) (fun cs h => by simp at h)
    have vk : Blk u5 _ _ 35 := grown_obj t5 hg2 (heap_later qk la) (fun cs h => by simp at h)
    have v3 := hlk w q3 (Nat.le_refl _)
    have ho : OwnI u5 w.heap.size 3 v' (stN l (i + 1)) := by
      unfold OwnI
      rw [stN_len, stN_succ, List.map_append]; exact ho
    obtain ⟨o2, c2, hv2⟩ := ho.slice
    rw [stN_len] at hv2
    subst hv2
    have hfz := v4.frozen 0
    have hce : ∃ y, u5.cell? ⟨w.heap.size, 0, none⟩ = some y := ⟨_, v4.cell 0⟩
    have g3 := chg_setCell (i := 0) u5 (ks := [w.heap.size]) (k := w.heap.size) (by simp) (.slice o2 (i + 1) c2)
    have z4 := v4.set 0 (.slice o2 (i + 1) c2)
    repeat' (first | (simp (disch := omega) only [push_cast, ↓reduceIte, Nat.reduceEqDiff, Int.reduceToNat, Nat.reducePow, Int.reducePow, Int.reduceNeg, Nat.reduceMul, Int.reduceMul, Int.reduceAdd, Int.reduceSub, Nat.reduceAdd, Nat.reduceSub, Nat.reduceLeDiff, Int.reduceLT, Int.reduceLE, Int.reduceEq, Int.reduceMod, Int.reduceDiv, reduceCtorEq, not_true_eq_false, not_false_eq_true, hfz]) | refine vIfE_of (fun _ => ?_) (fun _ => ?_) | refine vIfD_of (fun _ => ?_) (fun _ => ?_) | refine vIfQ_of (fun _ => ?_) (fun _ => ?_) | refine vIfV_of (fun _ => ?_) (fun _ => ?_) | refine And.intro (by omega) ?_ | refine drawn_q ?_ | fail)
    have z1 := heap_chg v1 g3 (by simp; omega)
    have z2 := heap_chg v2 g3 (by simp)
    have z3 := g3.later v3 (by simp)
    have z5 : OwnI _ w.heap.size 3 _ _ := own_chg_ty ho v4 (by decide) g3
    have zk := vk.chg g3 (by simp; omega)
    generalize u5.setCell ⟨w.heap.size, 0, none⟩ (.slice o2 (i + 1) c2) = u6 at *
    have gE := chg_putObj u6 (L := L) (ks := [L]) (by simp) (rec .ready .normal)
    repeat' (first | (simp (disch := omega) only [push_cast, ↓reduceIte, Nat.reduceEqDiff, Int.reduceToNat, Nat.reducePow, Int.reducePow, Int.reduceNeg, Nat.reduceMul, Int.reduceMul, Int.reduceAdd, Int.reduceSub, Nat.reduceAdd, Nat.reduceSub, Nat.reduceLeDiff, Int.reduceLT, Int.reduceLE, Int.reduceEq, Int.reduceMod, Int.reduceDiv, reduceCtorEq, not_true_eq_false, not_false_eq_true]) | refine vIfE_of (fun _ => ?_) (fun _ => ?_) | refine vIfD_of (fun _ => ?_) (fun _ => ?_) | refine vIfQ_of (fun _ => ?_) (fun _ => ?_) | refine vIfV_of (fun _ => ?_) (fun _ => ?_) | refine And.intro (by omega) ?_ | refine drawn_q ?_ | fail)
    have z5' := own_obj z5 z1 (hrec _ _) gE
    refine .inl ⟨⟨by omega, World.putObj_heap_same (Array.getElem?_eq_some_iff.1 z1).1, heap_chg z2 gE (by simp; omega), gE.later z3 (by simp; omega), _, z4.chg gE (by simp; omega), by simpa using z5'⟩, zk.chg gE (by simp; omega), hs.later (gE.later z3 (by simp; omega))⟩
theorem collect_c (kl : Nat) (o : Option Addr) (c : Nat) (l : List Int) (w : World) (hk : Blk w kl #[.slice o l.length c] 35) (hs : Sl w (.slice o l.length c) (l.map i64v)) (hl : l.length ≤ 65536) :
    FnC Try.prog 40 #[.func (.func 65) #[] #[ptb kl]] w fun v w' => OwnI w' w.heap.size 3 v (stp l) ∧ Later w w' := by
  refine enter40 _ ?_
  unfold B40
  repeat' (first | (simp (disch := omega) only [push_cast, ↓reduceIte, Nat.reduceEqDiff, Int.reduceToNat, Nat.reducePow, Int.reducePow, Int.reduceNeg, Nat.reduceMul, Int.reduceMul, Int.reduceAdd, Int.reduceSub, Nat.reduceAdd, Nat.reduceSub, Nat.reduceLeDiff, Int.reduceLT, Int.reduceLE, Int.reduceEq, Int.reduceMod, Int.reduceDiv, reduceCtorEq, not_true_eq_false, not_false_eq_true]) | refine vIfE_of (fun _ => ?_) (fun _ => ?_) | refine vIfD_of (fun _ => ?_) (fun _ => ?_) | refine vIfQ_of (fun _ => ?_) (fun _ => ?_) | refine vIfV_of (fun _ => ?_) (fun _ => ?_) | refine And.intro (by omega) ?_ | refine drawn_q ?_ | fail)
  refine (appendSeq_c kl o c l w hk hs hl).mono ?_
  rintro v w1 ⟨ho, hl1⟩
  obtain ⟨o2, c2, rfl⟩ := ho.slice
  repeat' (first | (simp (disch := omega) only [push_cast, ↓reduceIte, Nat.reduceEqDiff, Int.reduceToNat, Nat.reducePow, Int.reducePow, Int.reduceNeg, Nat.reduceMul, Int.reduceMul, Int.reduceAdd, Int.reduceSub, Nat.reduceAdd, Nat.reduceSub, Nat.reduceLeDiff, Int.reduceLT, Int.reduceLE, Int.reduceEq, Int.reduceMod, Int.reduceDiv, reduceCtorEq, not_true_eq_false, not_false_eq_true]) | refine vIfE_of (fun _ => ?_) (fun _ => ?_) | refine vIfD_of (fun _ => ?_) (fun _ => ?_) | refine vIfQ_of (fun _ => ?_) (fun _ => ?_) | refine vIfV_of (fun _ => ?_) (fun _ => ?_) | refine And.intro (by omega) ?_ | refine drawn_q ?_ | fail)
  first | exact hl1 | exact ⟨ho, hl1⟩ | trace_state
end Go.Proofs.Ytdfdohajjgjbdaa
