/- Contracts: aggs joined, and held against one another. -/
import Derived.Test.YthihbgpaoldbjaaPartF
set_option linter.all false
open Nat renaming reduceEqDiff → zA, reducePow → zB, reduceMul → zC, reduceAdd → zD, reduceSub → zE, reduceLeDiff → zF
open Int renaming reduceToNat → zG, reducePow → zH, reduceNeg → zI, reduceMul → zJ, reduceAdd → zK, reduceSub → zL, reduceLT → zM, reduceLE → zN, reduceEq → zO, reduceMod → zP, reduceDiv → zQ
section
set_option linter.unusedSimpArgs false
namespace Go.Proofs.Ythihbgpaoldbjaa
open Go.Vc
set_option maxRecDepth 100000
theorem box3_later {w w' : World} {k : Nat} {a b c : Value} {e : TypeId} (h : Blk w k #[a, b, c] e) (hl : Later w w') : w'.cell? ⟨k, 0, none⟩ = some a ∧ w'.cell? ⟨k, 1, none⟩ = some b ∧ w'.cell? ⟨k, 2, none⟩ = some c ∧ cellsAt w' ⟨k, 0, none⟩ 3 = some [a, b, c] := by
  have := h.chg (Chg.of_later (ks := []) hl) (by simp)
  exact ⟨this.cell 0, this.cell 1, this.cell 2, Blk.cellsAt (l := [a, b, c]) this⟩
theorem ajoin_c (a b : Ag) (w : World) (ha : ARt a) (hb : ARt b) : FnC Try.prog 74 #[agV a, agV b] w fun r w' => r = jnV a b ∧ Later w w' := by
  have jt : Fi (a.1 + b.1) → jnV a b = .tuple #[agV (ajn a b), .int .i64 0] := fun h => if_pos h
  have jf : ¬ Fi (a.1 + b.1) → jnV a b = .tuple #[agV (0, 0, 0), .int .i64 121] := fun h => if_neg h
  unfold agV
  refine enter74 _ _ ?_
  unfold B74
  have eca : (Value.agg #[.int .i64 a.1, .int .i64 a.2.1, .int .i64 a.2.2]).cells = #[.int .i64 a.1, .int .i64 a.2.1, .int .i64 a.2.2] := rfl
  have ecb : (Value.agg #[.int .i64 b.1, .int .i64 b.2.1, .int .i64 b.2.2]).cells = #[.int .i64 b.1, .int .i64 b.2.1, .int .i64 b.2.2] := rfl
  have l1 := later_alloc w (.cells #[.int .i64 a.1, .int .i64 a.2.1, .int .i64 a.2.2] 64)
  have B1 := Blk.new w #[.int .i64 a.1, .int .i64 a.2.1, .int .i64 a.2.2] 64
  have s1 : (w.alloc (.cells #[.int .i64 a.1, .int .i64 a.2.1, .int .i64 a.2.2] 64)).heap.size = w.heap.size + 1 := World.size_alloc w _
  repeat' (first | (simp (disch := omega) only [push_cast, ↓reduceIte, zA, zG, zB, zH, zI, zC, zJ, zK, zL, zD, zE, zF, zM, zN, zO, zP, zQ, reduceCtorEq, not_true_eq_false, not_false_eq_true, eca, ecb]) | (first | refine vIfE_of ?_ ?_ | refine vIfD_of ?_ ?_ | refine vIfQ_of ?_ ?_ | refine vIfV_of ?_ ?_) <;> intro _ | refine And.intro (by omega) ?_ | refine drawn_q ?_ | fail)
  generalize w.alloc (.cells #[.int .i64 a.1, .int .i64 a.2.1, .int .i64 a.2.2] 64) = w1 at *
  have l2 := later_alloc w1 (.cells #[.int .i64 b.1, .int .i64 b.2.1, .int .i64 b.2.2] 64)
  have B2 := Blk.new w1 #[.int .i64 b.1, .int .i64 b.2.1, .int .i64 b.2.2] 64
  have s2 : (w1.alloc (.cells #[.int .i64 b.1, .int .i64 b.2.1, .int .i64 b.2.2] 64)).heap.size = w1.heap.size + 1 := World.size_alloc w1 _
  generalize w1.alloc (.cells #[.int .i64 b.1, .int .i64 b.2.1, .int .i64 b.2.2] 64) = w2 at *
  have l3 := later_alloc w2 (.cells #[.int .i64 0, .int .i64 0, .int .i64 0] 64)
  have B3 := Blk.new w2 #[.int .i64 0, .int .i64 0, .int .i64 0] 64
  generalize w2.alloc (.cells #[.int .i64 0, .int .i64 0, .int .i64 0] 64) = w3 at *
  have FA := fun w' (hl : Later w3 w') => box3_later B1 ((l2.trans l3).trans hl)
  have FB := fun w' (hl : Later w3 w') => box3_later B2 (l3.trans hl)
  have l03 := (l1.trans l2).trans l3
  clear l1 l2 l3 B1 B2
  obtain ⟨_, _, _, a3⟩ := FA w3 (Later.refl _)
  repeat' (first | (simp (disch := omega) only [push_cast, ↓reduceIte, zA, zG, zB, zH, zI, zC, zJ, zK, zL, zD, zE, zF, zM, zN, zO, zP, zQ, reduceCtorEq, not_true_eq_false, not_false_eq_true, a3]) | (first | refine vIfE_of ?_ ?_ | refine vIfD_of ?_ ?_ | refine vIfQ_of ?_ ?_ | refine vIfV_of ?_ ?_) <;> intro _ | refine And.intro (by omega) ?_ | refine drawn_q ?_ | fail)
  refine (aright_c a w3).mono ?_
  rintro _ w4 ⟨rfl, l4⟩
  rw [decide_eq_true ha]
  obtain ⟨_, _, _, b3⟩ := FB w4 l4
  repeat' (first | (simp (disch := omega) only [push_cast, ↓reduceIte, zA, zG, zB, zH, zI, zC, zJ, zK, zL, zD, zE, zF, zM, zN, zO, zP, zQ, reduceCtorEq, not_true_eq_false, not_false_eq_true, b3]) | (first | refine vIfE_of ?_ ?_ | refine vIfD_of ?_ ?_ | refine vIfQ_of ?_ ?_ | refine vIfV_of ?_ ?_) <;> intro _ | refine And.intro (by omega) ?_ | refine drawn_q ?_ | fail)
  refine (aright_c b w4).mono ?_
  rintro _ w5 ⟨rfl, l5⟩
  rw [decide_eq_true hb]
  have l35 := l4.trans l5
  obtain ⟨c0, c1, c2, _⟩ := FA w5 l35
  obtain ⟨d0, d1, d2, _⟩ := FB w5 l35
  have hB3 := B3.chg (Chg.of_later (ks := []) l35) (by simp)
  have hlE := l03.trans l35
  have hks : ∀ k ∈ [w2.heap.size], w.heap.size ≤ k := by intro k hk; rw [List.mem_singleton.1 hk]; omega
  clear FA FB B3 a3 b3 l4 l5 l03 l35
  obtain ⟨⟨ha1, ha2⟩, ⟨ha3, ha4⟩, ⟨ha5, ha6⟩, ha7⟩ := ha
  obtain ⟨⟨hb1, hb2⟩, ⟨hb3, hb4⟩, ⟨hb5, hb6⟩, hb7⟩ := hb
  have fin : ∀ (x : Ag) (e : Int) (w6 : World) (σ : Env), Blk w6 w2.heap.size (agC x).toArray 64 → Chg w5 w6 [w2.heap.size] → σ 4 = .pointer (some ⟨w2.heap.size, 0, none⟩) → σ 5 = .int .i64 e → jnV a b = .tuple #[agV x, .int .i64 e] →
      resK Try.prog [.cell 4 64, .tmp 5] [] σ (fun r w' => r = jnV a b ∧ Later w w') w6 := by
    intro x e w6 σ hb6 hc6 h4 h5 hj
    refine resK_cells (s := 3) h4 (by rw [Try.underlying64]; exact sz64) (Blk.cellsAt (l := agC x) hb6) ?_
    repeat' (first | (simp (disch := omega) only [push_cast, ↓reduceIte, zA, zG, zB, zH, zI, zC, zJ, zK, zL, zD, zE, zF, zM, zN, zO, zP, zQ, reduceCtorEq, not_true_eq_false, not_false_eq_true, h5]) | (first | refine vIfE_of ?_ ?_ | refine vIfD_of ?_ ?_ | refine vIfQ_of ?_ ?_ | refine vIfV_of ?_ ?_) <;> intro _ | refine And.intro (by omega) ?_ | refine drawn_q ?_ | fail)
    rw [hj]
    exact ⟨rfl, Chg.later hlE hc6 hks⟩
  by_cases hf : Fi (a.1 + b.1)
  · have := jt hf
    obtain ⟨hf1, hf2⟩ := hf
    repeat' (first | (simp (disch := omega) only [push_cast, ↓reduceIte, zA, zG, zB, zH, zI, zC, zJ, zK, zL, zD, zE, zF, zM, zN, zO, zP, zQ, reduceCtorEq, not_true_eq_false, not_false_eq_true, c0, c1, c2, d0, d1, d2, addr_add_eq, Nat.zero_add]) | (first | refine vIfE_of ?_ ?_ | refine vIfD_of ?_ ?_ | refine vIfQ_of ?_ ?_ | refine vIfV_of ?_ ?_) <;> intro _ | refine And.intro (by omega) ?_ | refine drawn_q ?_ | fail)
    all_goals
      refine vStore_blk (l := [.int .i64 0, .int .i64 0, .int .i64 0]) (xs := agC (ajn a b)) hB3 rfl rfl (agC_one _) ?_
      intro w6 hb6 hc6
      repeat' (first | (simp (disch := omega) only [push_cast, ↓reduceIte, zA, zG, zB, zH, zI, zC, zJ, zK, zL, zD, zE, zF, zM, zN, zO, zP, zQ, reduceCtorEq, not_true_eq_false, not_false_eq_true]) | (first | refine vIfE_of ?_ ?_ | refine vIfD_of ?_ ?_ | refine vIfQ_of ?_ ?_ | refine vIfV_of ?_ ?_) <;> intro _ | refine And.intro (by omega) ?_ | refine drawn_q ?_ | fail)
      exact fin _ _ w6 _ hb6 hc6 (by simp (disch := omega) only [push_cast, ↓reduceIte, zA, zG, zB, zH, zI, zC, zJ, zK, zL, zD, zE, zF, zM, zN, zO, zP, zQ, reduceCtorEq, not_true_eq_false, not_false_eq_true]) (by simp (disch := omega) only [push_cast, ↓reduceIte, zA, zG, zB, zH, zI, zC, zJ, zK, zL, zD, zE, zF, zM, zN, zO, zP, zQ, reduceCtorEq, not_true_eq_false, not_false_eq_true]) this
  · have := jf hf
    have hf' : a.1 + b.1 < -4611686018427387904 ∨ 4611686018427387904 < a.1 + b.1 := by unfold Fi at hf; omega
    clear hf
    repeat' (first | (simp (disch := omega) only [push_cast, ↓reduceIte, zA, zG, zB, zH, zI, zC, zJ, zK, zL, zD, zE, zF, zM, zN, zO, zP, zQ, reduceCtorEq, not_true_eq_false, not_false_eq_true, c0, c1, c2, d0, d1, d2, addr_add_eq, Nat.zero_add]) | (first | refine vIfE_of ?_ ?_ | refine vIfD_of ?_ ?_ | refine vIfQ_of ?_ ?_ | refine vIfV_of ?_ ?_) <;> intro _ | refine And.intro (by omega) ?_ | refine drawn_q ?_ | fail)
    all_goals
      refine vStore_blk (l := [.int .i64 0, .int .i64 0, .int .i64 0]) (xs := agC (0, 0, 0)) hB3 rfl rfl (agC_one _) ?_
      intro w6 hb6 hc6
      repeat' (first | (simp (disch := omega) only [push_cast, ↓reduceIte, zA, zG, zB, zH, zI, zC, zJ, zK, zL, zD, zE, zF, zM, zN, zO, zP, zQ, reduceCtorEq, not_true_eq_false, not_false_eq_true]) | (first | refine vIfE_of ?_ ?_ | refine vIfD_of ?_ ?_ | refine vIfQ_of ?_ ?_ | refine vIfV_of ?_ ?_) <;> intro _ | refine And.intro (by omega) ?_ | refine drawn_q ?_ | fail)
      exact fin _ _ w6 _ hb6 hc6 (by simp (disch := omega) only [push_cast, ↓reduceIte, zA, zG, zB, zH, zI, zC, zJ, zK, zL, zD, zE, zF, zM, zN, zO, zP, zQ, reduceCtorEq, not_true_eq_false, not_false_eq_true]) (by simp (disch := omega) only [push_cast, ↓reduceIte, zA, zG, zB, zH, zI, zC, zJ, zK, zL, zD, zE, zF, zM, zN, zO, zP, zQ, reduceCtorEq, not_true_eq_false, not_false_eq_true]) this
theorem cajoin_c (a b : Ag) (w : World) (ha : ARt a) (hb : ARt b) : FnC Try.prog 75 #[agV a, agV b] w fun r w' => r = jnV a b ∧ Later w w' := by
  have jt : Fi (a.1 + b.1) → jnV a b = .tuple #[agV (ajn a b), .int .i64 0] := fun h => if_pos h
  have jf : ¬ Fi (a.1 + b.1) → jnV a b = .tuple #[agV (0, 0, 0), .int .i64 121] := fun h => if_neg h
  unfold agV
  refine enter75 _ _ ?_
  unfold B75
  have eca : (Value.agg #[.int .i64 a.1, .int .i64 a.2.1, .int .i64 a.2.2]).cells = #[.int .i64 a.1, .int .i64 a.2.1, .int .i64 a.2.2] := rfl
  have ecb : (Value.agg #[.int .i64 b.1, .int .i64 b.2.1, .int .i64 b.2.2]).cells = #[.int .i64 b.1, .int .i64 b.2.1, .int .i64 b.2.2] := rfl
  have l1 := later_alloc w (.cells #[.int .i64 a.1, .int .i64 a.2.1, .int .i64 a.2.2] 64)
  have B1 := Blk.new w #[.int .i64 a.1, .int .i64 a.2.1, .int .i64 a.2.2] 64
  have s1 : (w.alloc (.cells #[.int .i64 a.1, .int .i64 a.2.1, .int .i64 a.2.2] 64)).heap.size = w.heap.size + 1 := World.size_alloc w _
  repeat' (first | (simp (disch := omega) only [push_cast, ↓reduceIte, zA, zG, zB, zH, zI, zC, zJ, zK, zL, zD, zE, zF, zM, zN, zO, zP, zQ, reduceCtorEq, not_true_eq_false, not_false_eq_true, eca, ecb]) | (first | refine vIfE_of ?_ ?_ | refine vIfD_of ?_ ?_ | refine vIfQ_of ?_ ?_ | refine vIfV_of ?_ ?_) <;> intro _ | refine And.intro (by omega) ?_ | refine drawn_q ?_ | fail)
  generalize w.alloc (.cells #[.int .i64 a.1, .int .i64 a.2.1, .int .i64 a.2.2] 64) = w1 at *
  have l2 := later_alloc w1 (.cells #[.int .i64 b.1, .int .i64 b.2.1, .int .i64 b.2.2] 64)
  have B2 := Blk.new w1 #[.int .i64 b.1, .int .i64 b.2.1, .int .i64 b.2.2] 64
  have s2 : (w1.alloc (.cells #[.int .i64 b.1, .int .i64 b.2.1, .int .i64 b.2.2] 64)).heap.size = w1.heap.size + 1 := World.size_alloc w1 _
  generalize w1.alloc (.cells #[.int .i64 b.1, .int .i64 b.2.1, .int .i64 b.2.2] 64) = w2 at *
  have l3 := later_alloc w2 (.cells #[.int .i64 0, .int .i64 0, .int .i64 0] 64)
  have B3 := Blk.new w2 #[.int .i64 0, .int .i64 0, .int .i64 0] 64
  generalize w2.alloc (.cells #[.int .i64 0, .int .i64 0, .int .i64 0] 64) = w3 at *
  have FA := fun w' (hl : Later w3 w') => box3_later B1 ((l2.trans l3).trans hl)
  have FB := fun w' (hl : Later w3 w') => box3_later B2 (l3.trans hl)
  have l03 := (l1.trans l2).trans l3
  clear l1 l2 l3 B1 B2
  obtain ⟨_, _, _, a3⟩ := FA w3 (Later.refl _)
  repeat' (first | (simp (disch := omega) only [push_cast, ↓reduceIte, zA, zG, zB, zH, zI, zC, zJ, zK, zL, zD, zE, zF, zM, zN, zO, zP, zQ, reduceCtorEq, not_true_eq_false, not_false_eq_true, a3]) | (first | refine vIfE_of ?_ ?_ | refine vIfD_of ?_ ?_ | refine vIfQ_of ?_ ?_ | refine vIfV_of ?_ ?_) <;> intro _ | refine And.intro (by omega) ?_ | refine drawn_q ?_ | fail)
  refine (caright_c a w3).mono ?_
  rintro _ w4 ⟨rfl, l4⟩
  rw [decide_eq_true ha]
  obtain ⟨_, _, _, b3⟩ := FB w4 l4
  repeat' (first | (simp (disch := omega) only [push_cast, ↓reduceIte, zA, zG, zB, zH, zI, zC, zJ, zK, zL, zD, zE, zF, zM, zN, zO, zP, zQ, reduceCtorEq, not_true_eq_false, not_false_eq_true, b3]) | (first | refine vIfE_of ?_ ?_ | refine vIfD_of ?_ ?_ | refine vIfQ_of ?_ ?_ | refine vIfV_of ?_ ?_) <;> intro _ | refine And.intro (by omega) ?_ | refine drawn_q ?_ | fail)
  refine (caright_c b w4).mono ?_
  rintro _ w5 ⟨rfl, l5⟩
  rw [decide_eq_true hb]
  have l35 := l4.trans l5
  obtain ⟨c0, c1, c2, _⟩ := FA w5 l35
  obtain ⟨d0, d1, d2, _⟩ := FB w5 l35
  have hB3 := B3.chg (Chg.of_later (ks := []) l35) (by simp)
  have hlE := l03.trans l35
  have hks : ∀ k ∈ [w2.heap.size], w.heap.size ≤ k := by intro k hk; rw [List.mem_singleton.1 hk]; omega
  clear FA FB B3 a3 b3 l4 l5 l03 l35
  obtain ⟨⟨ha1, ha2⟩, ⟨ha3, ha4⟩, ⟨ha5, ha6⟩, ha7⟩ := ha
  obtain ⟨⟨hb1, hb2⟩, ⟨hb3, hb4⟩, ⟨hb5, hb6⟩, hb7⟩ := hb
  have fin : ∀ (x : Ag) (e : Int) (w6 : World) (σ : Env), Blk w6 w2.heap.size (agC x).toArray 64 → Chg w5 w6 [w2.heap.size] → σ 4 = .pointer (some ⟨w2.heap.size, 0, none⟩) → σ 5 = .int .i64 e → jnV a b = .tuple #[agV x, .int .i64 e] →
      resK Try.prog [.cell 4 64, .tmp 5] [] σ (fun r w' => r = jnV a b ∧ Later w w') w6 := by
    intro x e w6 σ hb6 hc6 h4 h5 hj
    refine resK_cells (s := 3) h4 (by rw [Try.underlying64]; exact sz64) (Blk.cellsAt (l := agC x) hb6) ?_
    repeat' (first | (simp (disch := omega) only [push_cast, ↓reduceIte, zA, zG, zB, zH, zI, zC, zJ, zK, zL, zD, zE, zF, zM, zN, zO, zP, zQ, reduceCtorEq, not_true_eq_false, not_false_eq_true, h5]) | (first | refine vIfE_of ?_ ?_ | refine vIfD_of ?_ ?_ | refine vIfQ_of ?_ ?_ | refine vIfV_of ?_ ?_) <;> intro _ | refine And.intro (by omega) ?_ | refine drawn_q ?_ | fail)
    rw [hj]
    exact ⟨rfl, Chg.later hlE hc6 hks⟩
  by_cases hf : Fi (a.1 + b.1)
  · have := jt hf
    obtain ⟨hf1, hf2⟩ := hf
    repeat' (first | (simp (disch := omega) only [push_cast, ↓reduceIte, zA, zG, zB, zH, zI, zC, zJ, zK, zL, zD, zE, zF, zM, zN, zO, zP, zQ, reduceCtorEq, not_true_eq_false, not_false_eq_true, c0, c1, c2, d0, d1, d2, addr_add_eq, Nat.zero_add]) | (first | refine vIfE_of ?_ ?_ | refine vIfD_of ?_ ?_ | refine vIfQ_of ?_ ?_ | refine vIfV_of ?_ ?_) <;> intro _ | refine And.intro (by omega) ?_ | refine drawn_q ?_ | fail)
    all_goals
      refine vStore_blk (l := [.int .i64 0, .int .i64 0, .int .i64 0]) (xs := agC (ajn a b)) hB3 rfl rfl (agC_one _) ?_
      intro w6 hb6 hc6
      repeat' (first | (simp (disch := omega) only [push_cast, ↓reduceIte, zA, zG, zB, zH, zI, zC, zJ, zK, zL, zD, zE, zF, zM, zN, zO, zP, zQ, reduceCtorEq, not_true_eq_false, not_false_eq_true]) | (first | refine vIfE_of ?_ ?_ | refine vIfD_of ?_ ?_ | refine vIfQ_of ?_ ?_ | refine vIfV_of ?_ ?_) <;> intro _ | refine And.intro (by omega) ?_ | refine drawn_q ?_ | fail)
      exact fin _ _ w6 _ hb6 hc6 (by simp (disch := omega) only [push_cast, ↓reduceIte, zA, zG, zB, zH, zI, zC, zJ, zK, zL, zD, zE, zF, zM, zN, zO, zP, zQ, reduceCtorEq, not_true_eq_false, not_false_eq_true]) (by simp (disch := omega) only [push_cast, ↓reduceIte, zA, zG, zB, zH, zI, zC, zJ, zK, zL, zD, zE, zF, zM, zN, zO, zP, zQ, reduceCtorEq, not_true_eq_false, not_false_eq_true]) this
  · have := jf hf
    have hf' : a.1 + b.1 < -4611686018427387904 ∨ 4611686018427387904 < a.1 + b.1 := by unfold Fi at hf; omega
    clear hf
    repeat' (first | (simp (disch := omega) only [push_cast, ↓reduceIte, zA, zG, zB, zH, zI, zC, zJ, zK, zL, zD, zE, zF, zM, zN, zO, zP, zQ, reduceCtorEq, not_true_eq_false, not_false_eq_true, c0, c1, c2, d0, d1, d2, addr_add_eq, Nat.zero_add]) | (first | refine vIfE_of ?_ ?_ | refine vIfD_of ?_ ?_ | refine vIfQ_of ?_ ?_ | refine vIfV_of ?_ ?_) <;> intro _ | refine And.intro (by omega) ?_ | refine drawn_q ?_ | fail)
    all_goals
      refine vStore_blk (l := [.int .i64 0, .int .i64 0, .int .i64 0]) (xs := agC (0, 0, 0)) hB3 rfl rfl (agC_one _) ?_
      intro w6 hb6 hc6
      repeat' (first | (simp (disch := omega) only [push_cast, ↓reduceIte, zA, zG, zB, zH, zI, zC, zJ, zK, zL, zD, zE, zF, zM, zN, zO, zP, zQ, reduceCtorEq, not_true_eq_false, not_false_eq_true]) | (first | refine vIfE_of ?_ ?_ | refine vIfD_of ?_ ?_ | refine vIfQ_of ?_ ?_ | refine vIfV_of ?_ ?_) <;> intro _ | refine And.intro (by omega) ?_ | refine drawn_q ?_ | fail)
      exact fin _ _ w6 _ hb6 hc6 (by simp (disch := omega) only [push_cast, ↓reduceIte, zA, zG, zB, zH, zI, zC, zJ, zK, zL, zD, zE, zF, zM, zN, zO, zP, zQ, reduceCtorEq, not_true_eq_false, not_false_eq_true]) (by simp (disch := omega) only [push_cast, ↓reduceIte, zA, zG, zB, zH, zI, zC, zJ, zK, zL, zD, zE, zF, zM, zN, zO, zP, zQ, reduceCtorEq, not_true_eq_false, not_false_eq_true]) this
theorem aone_c (n : Int) (w : World) (hn : Fi n) : FnC Try.prog 56 #[.int .i64 n] w fun r w' => r = .tuple #[agV (n, n, n), .int .i64 0] ∧ Later w w' := by
  refine enter56 _ ?_
  unfold B56
  have l1 := later_alloc w (.cells #[.int .i64 0, .int .i64 0, .int .i64 0] 64)
  have B1 := Blk.new w #[.int .i64 0, .int .i64 0, .int .i64 0] 64
  repeat' (first | (simp (disch := omega) only [push_cast, ↓reduceIte, zA, zG, zB, zH, zI, zC, zJ, zK, zL, zD, zE, zF, zM, zN, zO, zP, zQ, reduceCtorEq, not_true_eq_false, not_false_eq_true]) | (first | refine vIfE_of ?_ ?_ | refine vIfD_of ?_ ?_ | refine vIfQ_of ?_ ?_ | refine vIfV_of ?_ ?_) <;> intro _ | refine And.intro (by omega) ?_ | refine drawn_q ?_ | fail)
  generalize w.alloc (.cells #[.int .i64 0, .int .i64 0, .int .i64 0] 64) = w1 at *
  have l2 := later_alloc w1 (.cells #[.int .i64 n] 3)
  have hsl : Sl (w1.alloc (.cells #[.int .i64 n] 3)) (.slice (some ⟨w1.heap.size, 0, none⟩) 1 1) (([n] : List Int).map i64v) :=
    Sl.of_blk (xs := [.int .i64 n]) (Blk.new w1 _ _) rfl (by unfold maxLen; omega)
  refine (afits_c _ _ _ hsl).mono ?_
  rintro _ w2 ⟨rfl, l3⟩
  have hv : ([n] : List Int).all fitb = true := by simp only [List.all_cons, List.all_nil, Bool.and_true, fitb]; exact decide_eq_true hn
  rw [hv]
  have l12 := l2.trans l3
  have hB := B1.chg (Chg.of_later (ks := []) l12) (by simp)
  repeat' (first | (simp (disch := omega) only [push_cast, ↓reduceIte, zA, zG, zB, zH, zI, zC, zJ, zK, zL, zD, zE, zF, zM, zN, zO, zP, zQ, reduceCtorEq, not_true_eq_false, not_false_eq_true]) | (first | refine vIfE_of ?_ ?_ | refine vIfD_of ?_ ?_ | refine vIfQ_of ?_ ?_ | refine vIfV_of ?_ ?_) <;> intro _ | refine And.intro (by omega) ?_ | refine drawn_q ?_ | fail)
  refine vStore_blk (l := [.int .i64 0, .int .i64 0, .int .i64 0]) (xs := agC (n, n, n)) hB rfl rfl (agC_one _) ?_
  intro w6 hb6 hc6
  repeat' (first | (simp (disch := omega) only [push_cast, ↓reduceIte, zA, zG, zB, zH, zI, zC, zJ, zK, zL, zD, zE, zF, zM, zN, zO, zP, zQ, reduceCtorEq, not_true_eq_false, not_false_eq_true]) | (first | refine vIfE_of ?_ ?_ | refine vIfD_of ?_ ?_ | refine vIfQ_of ?_ ?_ | refine vIfV_of ?_ ?_) <;> intro _ | refine And.intro (by omega) ?_ | refine drawn_q ?_ | fail)
  refine resK_cells (s := 3) (by simp (disch := omega) only [push_cast, ↓reduceIte, zA, zG, zB, zH, zI, zC, zJ, zK, zL, zD, zE, zF, zM, zN, zO, zP, zQ, reduceCtorEq, not_true_eq_false, not_false_eq_true]) (by rw [Try.underlying64]; exact sz64) (Blk.cellsAt (l := agC (n, n, n)) hb6) ?_
  repeat' (first | (simp (disch := omega) only [push_cast, ↓reduceIte, zA, zG, zB, zH, zI, zC, zJ, zK, zL, zD, zE, zF, zM, zN, zO, zP, zQ, reduceCtorEq, not_true_eq_false, not_false_eq_true]) | (first | refine vIfE_of ?_ ?_ | refine vIfD_of ?_ ?_ | refine vIfQ_of ?_ ?_ | refine vIfV_of ?_ ?_) <;> intro _ | refine And.intro (by omega) ?_ | refine drawn_q ?_ | fail)
  exact ⟨rfl, Chg.later (l1.trans l12) hc6 (by intro k hk; rw [List.mem_singleton.1 hk]; omega)⟩
/-- Two aggs, held against one another, in an expression of two ways. -/
theorem qX_agg {x y : Operand} {u ty : TypeId} {σ : Env} {w : World} {K : Value → Prop} {a b : Ag} (hx : ev σ x = agV a) (hy : ev σ y = agV b) (hk : K (.bool (!decide (a = b)))) :
    qX Try.prog (.binOp .neq 64 x y u) ty σ w K := by
  refine pure_of_up (s := do eqGuard .neq 64 x y (ev σ x) (ev σ y); binOp .neq 64 (ev σ x) (ev σ y)) (fun w' => ?_) ⟨_, fun w' => ?_, hk⟩
  · unfold exe; simp only [execOp]; rfl
  · rw [hx, hy]
    exact run_triple Try.underlying64 Try.underlying3 Try.underlying3 Try.underlying3 rfl rfl rfl (by decide) (by decide) (by decide) (by kernel_rfl) (by kernel_rfl) _ _ _ _ _ _ _ _ _
theorem casame_c (u v : Value) (a b : List Ag) (w : World) (hu : AgS w u a) (hv : AgS w v b) : FnC Try.prog 67 #[u, v] w fun r w' => r = .bool (decide (a = b)) ∧ Later w w' := by
  obtain ⟨oa, ca, rfl, g1, g2⟩ := hu.slice
  obtain ⟨ob, cb, rfl, k1, k2⟩ := hv.slice
  refine enter67 _ _ ?_
  unfold B67
  by_cases hlen : a.length = b.length
  · repeat' (first | (simp (disch := omega) only [push_cast, ↓reduceIte, zA, zG, zB, zH, zI, zC, zJ, zK, zL, zD, zE, zF, zM, zN, zO, zP, zQ, reduceCtorEq, not_true_eq_false, not_false_eq_true]) | (first | refine vIfE_of ?_ ?_ | refine vIfD_of ?_ ?_ | refine vIfQ_of ?_ ?_ | refine vIfV_of ?_ ?_) <;> intro _ | refine And.intro (by omega) ?_ | refine drawn_q ?_ | fail)
    refine vc_loop W67_0 (fun i : Nat => [(4, .bool false), (5, .int .i64 (i : Int))])
      (fun i w' => i ≤ a.length ∧ Later w w' ∧ a.take i = b.take i) (fun i => a.length - i) 0 (by decide) ?_ ?_ ?_
    · simp (disch := omega) only [push_cast, ↓reduceIte, zA, zG, zB, zH, zI, zC, zJ, zK, zL, zD, zE, zF, zM, zN, zO, zP, zQ, reduceCtorEq, not_true_eq_false, not_false_eq_true]
    · exact ⟨by omega, Later.refl _, by simp⟩
    rintro i uu w0 ⟨hi, hl, he⟩
    by_cases ha : i < a.length
    · have hb : i < b.length := by omega
      obtain ⟨aa, rfl, c1⟩ := RecS.at agC_len (hu.later hl) ha
      obtain ⟨bb, rfl, c2⟩ := RecS.at agC_len (hv.later hl) hb
      unfold agC at c1 c2
      repeat' (first | (simp (disch := omega) only [push_cast, ↓reduceIte, zA, zG, zB, zH, zI, zC, zJ, zK, zL, zD, zE, zF, zM, zN, zO, zP, zQ, reduceCtorEq, not_true_eq_false, not_false_eq_true]) | (first | refine vIfE_of ?_ ?_ | refine vIfD_of ?_ ?_ | refine vIfQ_of ?_ ?_ | refine vIfV_of ?_ ?_) <;> intro _ | refine And.intro (by omega) ?_ | fail)
      refine drawn_q ?_
      repeat' (first | (simp (disch := omega) only [push_cast, ↓reduceIte, zA, zG, zB, zH, zI, zC, zJ, zK, zL, zD, zE, zF, zM, zN, zO, zP, zQ, reduceCtorEq, not_true_eq_false, not_false_eq_true, c1, c2]) | (first | refine vIfE_of ?_ ?_ | refine vIfD_of ?_ ?_ | refine vIfQ_of ?_ ?_ | refine vIfV_of ?_ ?_) <;> intro _ | refine And.intro (by omega) ?_ | refine drawn_q ?_ | fail)
      refine qX_agg (a := a[i]) (b := b[i]) (by simp (disch := omega) only [push_cast, ↓reduceIte, zA, zG, zB, zH, zI, zC, zJ, zK, zL, zD, zE, zF, zM, zN, zO, zP, zQ, reduceCtorEq, not_true_eq_false, not_false_eq_true]; rfl) (by simp (disch := omega) only [push_cast, ↓reduceIte, zA, zG, zB, zH, zI, zC, zJ, zK, zL, zD, zE, zF, zM, zN, zO, zP, zQ, reduceCtorEq, not_true_eq_false, not_false_eq_true]; rfl) ?_
      by_cases hab : a[i] = b[i]
      · repeat' (first | (simp (disch := omega) only [push_cast, ↓reduceIte, zA, zG, zB, zH, zI, zC, zJ, zK, zL, zD, zE, zF, zM, zN, zO, zP, zQ, reduceCtorEq, not_true_eq_false, not_false_eq_true, hab, decide_true]) | (first | refine vIfE_of ?_ ?_ | refine vIfD_of ?_ ?_ | refine vIfQ_of ?_ ?_ | refine vIfV_of ?_ ?_) <;> intro _ | refine And.intro (by omega) ?_ | refine drawn_q ?_ | fail)
        intro w1 hl1
        repeat' (first | (simp (disch := omega) only [push_cast, ↓reduceIte, zA, zG, zB, zH, zI, zC, zJ, zK, zL, zD, zE, zF, zM, zN, zO, zP, zQ, reduceCtorEq, not_true_eq_false, not_false_eq_true]) | (first | refine vIfE_of ?_ ?_ | refine vIfD_of ?_ ?_ | refine vIfQ_of ?_ ?_ | refine vIfV_of ?_ ?_) <;> intro _ | refine And.intro (by omega) ?_ | refine drawn_q ?_ | fail)
        refine ⟨rfl, i + 1, by simp (disch := omega) only [push_cast, ↓reduceIte, zA, zG, zB, zH, zI, zC, zJ, zK, zL, zD, zE, zF, zM, zN, zO, zP, zQ, reduceCtorEq, not_true_eq_false, not_false_eq_true], ⟨by omega, hl.trans hl1, ?_⟩, by simp; omega⟩
        rw [take_snoc a i ha, take_snoc b i hb, he, hab]
      · have hne : a ≠ b := fun e => by subst e; exact hab rfl
        repeat' (first | (simp (disch := omega) only [push_cast, ↓reduceIte, zA, zG, zB, zH, zI, zC, zJ, zK, zL, zD, zE, zF, zM, zN, zO, zP, zQ, reduceCtorEq, not_true_eq_false, not_false_eq_true, hab, decide_false]) | (first | refine vIfE_of ?_ ?_ | refine vIfD_of ?_ ?_ | refine vIfQ_of ?_ ?_ | refine vIfV_of ?_ ?_) <;> intro _ | refine And.intro (by omega) ?_ | refine drawn_q ?_ | fail)
        intro w1 hl1
        repeat' (first | (simp (disch := omega) only [push_cast, ↓reduceIte, zA, zG, zB, zH, zI, zC, zJ, zK, zL, zD, zE, zF, zM, zN, zO, zP, zQ, reduceCtorEq, not_true_eq_false, not_false_eq_true]) | (first | refine vIfE_of ?_ ?_ | refine vIfD_of ?_ ?_ | refine vIfQ_of ?_ ?_ | refine vIfV_of ?_ ?_) <;> intro _ | refine And.intro (by omega) ?_ | refine drawn_q ?_ | fail)
        simp [hne, hl.trans hl1]
    · have e : i = a.length := by omega
      subst e
      rw [List.take_length, hlen, List.take_length] at he
      repeat' (first | (simp (disch := omega) only [push_cast, ↓reduceIte, zA, zG, zB, zH, zI, zC, zJ, zK, zL, zD, zE, zF, zM, zN, zO, zP, zQ, reduceCtorEq, not_true_eq_false, not_false_eq_true]) | (first | refine vIfE_of ?_ ?_ | refine vIfD_of ?_ ?_ | refine vIfQ_of ?_ ?_ | refine vIfV_of ?_ ?_) <;> intro _ | refine And.intro (by omega) ?_ | refine drawn_q ?_ | fail)
      simp [he, hl]
  · have hne : a ≠ b := fun e => by subst e; exact hlen rfl
    repeat' (first | (simp (disch := omega) only [push_cast, ↓reduceIte, zA, zG, zB, zH, zI, zC, zJ, zK, zL, zD, zE, zF, zM, zN, zO, zP, zQ, reduceCtorEq, not_true_eq_false, not_false_eq_true]) | (first | refine vIfE_of ?_ ?_ | refine vIfD_of ?_ ?_ | refine vIfQ_of ?_ ?_ | refine vIfV_of ?_ ?_) <;> intro _ | refine And.intro (by omega) ?_ | refine drawn_q ?_ | fail)
    simp [hne, Later.refl]
theorem aequal_c (u v : Value) (a b : List Ag) (w : World) (hu : AgS w u a) (hv : AgS w v b) : FnC Try.prog 78 #[u, v] w fun r w' => r = .bool (decide (a = b)) ∧ Later w w' := by
  obtain ⟨oa, ca, rfl, g1, g2⟩ := hu.slice
  obtain ⟨ob, cb, rfl, k1, k2⟩ := hv.slice
  refine enter78 _ _ ?_
  unfold B78
  by_cases hlen : a.length = b.length
  · repeat' (first | (simp (disch := omega) only [push_cast, ↓reduceIte, zA, zG, zB, zH, zI, zC, zJ, zK, zL, zD, zE, zF, zM, zN, zO, zP, zQ, reduceCtorEq, not_true_eq_false, not_false_eq_true]) | (first | refine vIfE_of ?_ ?_ | refine vIfD_of ?_ ?_ | refine vIfQ_of ?_ ?_ | refine vIfV_of ?_ ?_) <;> intro _ | refine And.intro (by omega) ?_ | refine drawn_q ?_ | fail)
    refine vc_loop W78_0 (fun i : Nat => [(4, .bool false), (13, .int .i64 (i : Int))])
      (fun i w' => i ≤ a.length ∧ Later w w' ∧ a.take i = b.take i) (fun i => a.length - i) 0 (by decide) ?_ ?_ ?_
    · simp (disch := omega) only [push_cast, ↓reduceIte, zA, zG, zB, zH, zI, zC, zJ, zK, zL, zD, zE, zF, zM, zN, zO, zP, zQ, reduceCtorEq, not_true_eq_false, not_false_eq_true]
    · exact ⟨by omega, Later.refl _, by simp⟩
    rintro i uu w0 ⟨hi, hl, he⟩
    by_cases ha : i < a.length
    · have hb : i < b.length := by omega
      obtain ⟨aa, rfl, c1⟩ := RecS.at agC_len (hu.later hl) ha
      obtain ⟨bb, rfl, c2⟩ := RecS.at agC_len (hv.later hl) hb
      unfold agC at c1 c2
      repeat' (first | (simp (disch := omega) only [push_cast, ↓reduceIte, zA, zG, zB, zH, zI, zC, zJ, zK, zL, zD, zE, zF, zM, zN, zO, zP, zQ, reduceCtorEq, not_true_eq_false, not_false_eq_true]) | (first | refine vIfE_of ?_ ?_ | refine vIfD_of ?_ ?_ | refine vIfQ_of ?_ ?_ | refine vIfV_of ?_ ?_) <;> intro _ | refine And.intro (by omega) ?_ | fail)
      refine drawn_q ?_
      repeat' (first | (simp (disch := omega) only [push_cast, ↓reduceIte, zA, zG, zB, zH, zI, zC, zJ, zK, zL, zD, zE, zF, zM, zN, zO, zP, zQ, reduceCtorEq, not_true_eq_false, not_false_eq_true, c1, c2]) | (first | refine vIfE_of ?_ ?_ | refine vIfD_of ?_ ?_ | refine vIfQ_of ?_ ?_ | refine vIfV_of ?_ ?_) <;> intro _ | refine And.intro (by omega) ?_ | refine drawn_q ?_ | fail)
      refine qX_agg (a := a[i]) (b := b[i]) (by simp (disch := omega) only [push_cast, ↓reduceIte, zA, zG, zB, zH, zI, zC, zJ, zK, zL, zD, zE, zF, zM, zN, zO, zP, zQ, reduceCtorEq, not_true_eq_false, not_false_eq_true]; rfl) (by simp (disch := omega) only [push_cast, ↓reduceIte, zA, zG, zB, zH, zI, zC, zJ, zK, zL, zD, zE, zF, zM, zN, zO, zP, zQ, reduceCtorEq, not_true_eq_false, not_false_eq_true]; rfl) ?_
      by_cases hab : a[i] = b[i]
      · repeat' (first | (simp (disch := omega) only [push_cast, ↓reduceIte, zA, zG, zB, zH, zI, zC, zJ, zK, zL, zD, zE, zF, zM, zN, zO, zP, zQ, reduceCtorEq, not_true_eq_false, not_false_eq_true, hab, decide_true]) | (first | refine vIfE_of ?_ ?_ | refine vIfD_of ?_ ?_ | refine vIfQ_of ?_ ?_ | refine vIfV_of ?_ ?_) <;> intro _ | refine And.intro (by omega) ?_ | refine drawn_q ?_ | fail)
        intro w1 hl1
        repeat' (first | (simp (disch := omega) only [push_cast, ↓reduceIte, zA, zG, zB, zH, zI, zC, zJ, zK, zL, zD, zE, zF, zM, zN, zO, zP, zQ, reduceCtorEq, not_true_eq_false, not_false_eq_true]) | (first | refine vIfE_of ?_ ?_ | refine vIfD_of ?_ ?_ | refine vIfQ_of ?_ ?_ | refine vIfV_of ?_ ?_) <;> intro _ | refine And.intro (by omega) ?_ | refine drawn_q ?_ | fail)
        refine ⟨rfl, i + 1, by simp (disch := omega) only [push_cast, ↓reduceIte, zA, zG, zB, zH, zI, zC, zJ, zK, zL, zD, zE, zF, zM, zN, zO, zP, zQ, reduceCtorEq, not_true_eq_false, not_false_eq_true], ⟨by omega, hl.trans hl1, ?_⟩, by simp; omega⟩
        rw [take_snoc a i ha, take_snoc b i hb, he, hab]
      · have hne : a ≠ b := fun e => by subst e; exact hab rfl
        repeat' (first | (simp (disch := omega) only [push_cast, ↓reduceIte, zA, zG, zB, zH, zI, zC, zJ, zK, zL, zD, zE, zF, zM, zN, zO, zP, zQ, reduceCtorEq, not_true_eq_false, not_false_eq_true, hab, decide_false]) | (first | refine vIfE_of ?_ ?_ | refine vIfD_of ?_ ?_ | refine vIfQ_of ?_ ?_ | refine vIfV_of ?_ ?_) <;> intro _ | refine And.intro (by omega) ?_ | refine drawn_q ?_ | fail)
        intro w1 hl1
        repeat' (first | (simp (disch := omega) only [push_cast, ↓reduceIte, zA, zG, zB, zH, zI, zC, zJ, zK, zL, zD, zE, zF, zM, zN, zO, zP, zQ, reduceCtorEq, not_true_eq_false, not_false_eq_true]) | (first | refine vIfE_of ?_ ?_ | refine vIfD_of ?_ ?_ | refine vIfQ_of ?_ ?_ | refine vIfV_of ?_ ?_) <;> intro _ | refine And.intro (by omega) ?_ | refine drawn_q ?_ | fail)
        simp [hne, hl.trans hl1]
    · have e : i = a.length := by omega
      subst e
      rw [List.take_length, hlen, List.take_length] at he
      repeat' (first | (simp (disch := omega) only [push_cast, ↓reduceIte, zA, zG, zB, zH, zI, zC, zJ, zK, zL, zD, zE, zF, zM, zN, zO, zP, zQ, reduceCtorEq, not_true_eq_false, not_false_eq_true]) | (first | refine vIfE_of ?_ ?_ | refine vIfD_of ?_ ?_ | refine vIfQ_of ?_ ?_ | refine vIfV_of ?_ ?_) <;> intro _ | refine And.intro (by omega) ?_ | refine drawn_q ?_ | fail)
      simp [he, hl]
  · have hne : a ≠ b := fun e => by subst e; exact hlen rfl
    repeat' (first | (simp (disch := omega) only [push_cast, ↓reduceIte, zA, zG, zB, zH, zI, zC, zJ, zK, zL, zD, zE, zF, zM, zN, zO, zP, zQ, reduceCtorEq, not_true_eq_false, not_false_eq_true]) | (first | refine vIfE_of ?_ ?_ | refine vIfD_of ?_ ?_ | refine vIfQ_of ?_ ?_ | refine vIfV_of ?_ ?_) <;> intro _ | refine And.intro (by omega) ?_ | refine drawn_q ?_ | fail)
    simp [hne, Later.refl]
end Go.Proofs.Ythihbgpaoldbjaa
end
section
namespace Go.Key
open Go.Stab
theorem bl_tri : ∀ (a b : List UInt8), (Op.bytesLess a b = true ∧ Op.bytesLess b a = false ∧ a ≠ b) ∨ (a = b ∧ Op.bytesLess a b = false) ∨ (Op.bytesLess a b = false ∧ Op.bytesLess b a = true ∧ a ≠ b)
  | [], [] => .inr (.inl ⟨rfl, rfl⟩)
  | [], _ :: _ => .inl ⟨rfl, rfl, by simp⟩
  | _ :: _, [] => .inr (.inr ⟨rfl, rfl, by simp⟩)
  | x :: a, y :: b => by
    rcases UInt8.lt_or_lt_of_ne (a := x) (b := y) |> fun h => (Decidable.em (x = y)).imp id h with e | e | e
    · subst e
      have hx : ¬ x < x := UInt8.lt_irrefl x
      rcases bl_tri a b with ⟨h1, h2, h3⟩ | ⟨h1, h2⟩ | ⟨h1, h2, h3⟩
      · exact .inl ⟨by simp [Op.bytesLess, h1], by simp [Op.bytesLess, h2, hx], by simpa using h3⟩
      · exact .inr (.inl ⟨by rw [h1], by simp [Op.bytesLess, h2, hx]⟩)
      · exact .inr (.inr ⟨by simp [Op.bytesLess, h1, hx], by simp [Op.bytesLess, h2], by simpa using h3⟩)
    · have n : ¬ y < x := fun h => UInt8.lt_irrefl _ (UInt8.lt_trans h e)
      have ne : x ≠ y := fun h => by subst h; exact UInt8.lt_irrefl _ e
      exact .inl ⟨by simp [Op.bytesLess, e], by simp [Op.bytesLess, n, Ne.symm ne], by simp [ne]⟩
    · have n : ¬ x < y := fun h => UInt8.lt_irrefl _ (UInt8.lt_trans h e)
      have ne : x ≠ y := fun h => by subst h; exact UInt8.lt_irrefl _ e
      exact .inr (.inr ⟨by simp [Op.bytesLess, n, ne], by simp [Op.bytesLess, e], by simp [ne]⟩)
theorem bl_trans : ∀ (a b c : List UInt8), Op.bytesLess a b = true → Op.bytesLess b c = true → Op.bytesLess a c = true
  | _, [], _, h, _ => by simp [Op.bytesLess] at h
  | _, _ :: _, [], _, h => by simp [Op.bytesLess] at h
  | [], _ :: _, _ :: _, _, _ => rfl
  | x :: a, y :: b, z :: c, h, g => by
    simp only [Op.bytesLess, Bool.or_eq_true, decide_eq_true_eq, Bool.and_eq_true, beq_iff_eq] at h g ⊢
    rcases h with h | ⟨rfl, h⟩ <;> rcases g with g | ⟨rfl, g⟩
    · exact .inl (UInt8.lt_trans h g)
    · exact .inl h
    · exact .inl g
    · exact .inr ⟨rfl, bl_trans a b c h g⟩
/-- Texts. -/
def blt (a b : ByteArray) : Bool := Op.bytesLess a.data.toList b.data.toList
theorem ba_ext {a b : ByteArray} (h : a.data.toList = b.data.toList) : a = b := by
  cases a; cases b
  congr
  exact Array.ext' h
theorem blt_tri (a b : ByteArray) : (blt a b = true ∧ blt b a = false ∧ a ≠ b) ∨ (a = b ∧ blt a b = false) ∨ (blt a b = false ∧ blt b a = true ∧ a ≠ b) := by
  rcases bl_tri a.data.toList b.data.toList with ⟨h1, h2, h3⟩ | ⟨h1, h2⟩ | ⟨h1, h2, h3⟩
  · exact .inl ⟨h1, h2, fun e => h3 (by rw [e])⟩
  · exact .inr (.inl ⟨ba_ext h1, h2⟩)
  · exact .inr (.inr ⟨h1, h2, fun e => h3 (by rw [e])⟩)
def cstr (a b : ByteArray) : Int := if blt a b = true then -1 else if a = b then 0 else 1
theorem cstr_is (a b : ByteArray) : (cstr a b = -1 ∧ cstr b a = 1 ∧ blt a b = true) ∨ (cstr a b = 0 ∧ cstr b a = 0 ∧ a = b) ∨ (cstr a b = 1 ∧ cstr b a = -1 ∧ blt b a = true) := by
  rcases blt_tri a b with ⟨h1, h2, h3⟩ | ⟨h1, h2⟩ | ⟨h1, h2, h3⟩
  · exact .inl ⟨by simp [cstr, h1], by simp [cstr, h2, Ne.symm h3], h1⟩
  · subst h1; exact .inr (.inl ⟨by simp [cstr, h2], by simp [cstr, h2], rfl⟩)
  · exact .inr (.inr ⟨by simp [cstr, h1, h3], by simp [cstr, h2], h2⟩)
/-- Lists of texts. -/
def clist : List ByteArray → List ByteArray → Int
  | [], [] => 0
  | [], _ :: _ => -1
  | _ :: _, [] => 1
  | a :: x, b :: y => if cstr a b = 0 then clist x y else cstr a b
theorem clist_is : ∀ (a b : List ByteArray), (clist a b = -1 ∧ clist b a = 1 ∧ a ≠ b) ∨ (clist a b = 0 ∧ clist b a = 0 ∧ a = b) ∨ (clist a b = 1 ∧ clist b a = -1 ∧ a ≠ b)
  | [], [] => .inr (.inl ⟨rfl, rfl, rfl⟩)
  | [], _ :: _ => .inl ⟨rfl, rfl, by simp⟩
  | _ :: _, [] => .inr (.inr ⟨rfl, rfl, by simp⟩)
  | x :: a, y :: b => by
    rcases cstr_is x y with ⟨h1, h2, h3⟩ | ⟨h1, h2, h3⟩ | ⟨h1, h2, h3⟩
    · refine .inl ⟨by simp [clist, h1], by simp [clist, h2], fun e => ?_⟩
      obtain ⟨rfl, _⟩ := List.cons.inj e
      rw [h1] at h2; cases h2
    · subst h3
      rcases clist_is a b with ⟨g1, g2, g3⟩ | ⟨g1, g2, g3⟩ | ⟨g1, g2, g3⟩
      · exact .inl ⟨by simp [clist, h1, g1], by simp [clist, h1, g2], by simp [g3]⟩
      · exact .inr (.inl ⟨by simp [clist, h1, g1], by simp [clist, h1, g2], by simp [g3]⟩)
      · exact .inr (.inr ⟨by simp [clist, h1, g1], by simp [clist, h1, g2], by simp [g3]⟩)
    · refine .inr (.inr ⟨by simp [clist, h1], by simp [clist, h2], fun e => ?_⟩)
      obtain ⟨rfl, _⟩ := List.cons.inj e
      rw [h1] at h2; cases h2
theorem cstr_trans {a b c : ByteArray} (h : cstr a b = -1) (g : cstr b c = -1) : cstr a c = -1 := by
  have h1 : blt a b = true := by
    rcases cstr_is a b with h' | h' | h'
    · exact h'.2.2
    · rw [h] at h'; cases h'.1
    · rw [h] at h'; cases h'.1
  have h2 : blt b c = true := by
    rcases cstr_is b c with h' | h' | h'
    · exact h'.2.2
    · rw [g] at h'; cases h'.1
    · rw [g] at h'; cases h'.1
  have : blt a c = true := bl_trans _ _ _ h1 h2
  simp [cstr, this]
theorem clist_trans : ∀ (a b c : List ByteArray), clist a b = -1 → clist b c = -1 → clist a c = -1
  | [], [], _, h, _ => by simp [clist] at h
  | _ :: _, [], _, h, _ => by simp [clist] at h
  | _, _ :: _, [], _, h => by simp [clist] at h
  | [], _ :: _, _ :: _, _, _ => rfl
  | x :: a, y :: b, z :: c, h, g => by
    simp only [clist] at h g ⊢
    by_cases e1 : cstr x y = 0
    · have exy : x = y := by
        rcases cstr_is x y with h' | h' | h'
        · rw [e1] at h'; cases h'.1
        · exact h'.2.2
        · rw [e1] at h'; cases h'.1
      subst exy
      rw [if_pos e1] at h
      by_cases e2 : cstr x z = 0
      · rw [if_pos e2] at g ⊢
        exact clist_trans a b c h g
      · rw [if_neg e2] at g ⊢
        exact g
    · rw [if_neg e1] at h
      by_cases e2 : cstr y z = 0
      · have eyz : y = z := by
          rcases cstr_is y z with h' | h' | h'
          · rw [e2] at h'; cases h'.1
          · exact h'.2.2
          · rw [e2] at h'; cases h'.1
        subst eyz
        rw [if_neg (by rw [h]; decide), h]
      · rw [if_neg e2] at g
        have := cstr_trans h g
        rw [if_neg (by rw [this]; decide), this]
/-- Keys. -/
def ckey (t : Int) (d : List ByteArray) (t' : Int) (d' : List ByteArray) : Int := if t < t' then -1 else if t' < t then 1 else clist d d'
theorem ckey_is (t : Int) (d : List ByteArray) (t' : Int) (d' : List ByteArray) : (ckey t d t' d' = -1 ∧ ckey t' d' t d = 1 ∧ ¬ (t = t' ∧ d = d')) ∨ (ckey t d t' d' = 0 ∧ ckey t' d' t d = 0 ∧ t = t' ∧ d = d') ∨ (ckey t d t' d' = 1 ∧ ckey t' d' t d = -1 ∧ ¬ (t = t' ∧ d = d')) := by
  unfold ckey
  by_cases h1 : t < t'
  · exact .inl ⟨if_pos h1, by rw [if_neg (by omega), if_pos h1], by omega⟩
  · by_cases h2 : t' < t
    · exact .inr (.inr ⟨by rw [if_neg h1, if_pos h2], if_pos h2, by omega⟩)
    · have e : t = t' := by omega
      subst e
      rw [if_neg h1, if_neg h1, if_neg h1, if_neg h1]
      rcases clist_is d d' with ⟨g1, g2, g3⟩ | ⟨g1, g2, g3⟩ | ⟨g1, g2, g3⟩
      · exact .inl ⟨g1, g2, fun h => g3 h.2⟩
      · exact .inr (.inl ⟨g1, g2, rfl, g3⟩)
      · exact .inr (.inr ⟨g1, g2, fun h => g3 h.2⟩)
theorem ckey_trans {t t' t'' : Int} {d d' d'' : List ByteArray} (h : ckey t d t' d' = -1) (g : ckey t' d' t'' d'' = -1) : ckey t d t'' d'' = -1 := by
  unfold ckey at *
  split at h
  · split at g
    · rw [if_pos (by omega)]
    · split at g
      · cases g
      · rw [if_pos (by omega)]
  · split at h
    · cases h
    · split at g
      · rw [if_pos (by omega)]
      · split at g
        · cases g
        · rw [if_neg (by omega), if_neg (by omega)]
          exact clist_trans _ _ _ h g
/-- An order out of keys. -/
theorem swo_key {α : Type} (t : α → Int) (d : α → List ByteArray) : Swo (fun a b : α => decide (ckey (t a) (d a) (t b) (d b) < 0)) where
  asym a b h := by
    have h : ckey (t a) (d a) (t b) (d b) < 0 := of_decide_eq_true h
    rcases ckey_is (t a) (d a) (t b) (d b) with h' | h' | h' <;> exact decide_eq_false (by omega)
  ntr a b c h g := by
    have h : ¬ ckey (t b) (d b) (t a) (d a) < 0 := of_decide_eq_false h
    have g : ¬ ckey (t c) (d c) (t b) (d b) < 0 := of_decide_eq_false g
    refine decide_eq_false ?_
    rcases ckey_is (t a) (d a) (t b) (d b) with h1 | h1 | h1
    · rcases ckey_is (t b) (d b) (t c) (d c) with h2 | h2 | h2
      · have := ckey_trans h1.1 h2.1
        rcases ckey_is (t a) (d a) (t c) (d c) with h3 | h3 | h3 <;> omega
      · rw [← h2.2.2.1, ← h2.2.2.2]; exact h
      · omega
    · rw [h1.2.2.1, h1.2.2.2]; exact g
    · omega
end Go.Key
end
