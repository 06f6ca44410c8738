/- Is a manifest right? What the document's 'yes' means. -/
import Derived.Test.YtnofalhkapmcnaaRows
import Derived.Deep.CondSized
import Derived.Test.YtnofalhkapmcnaaPartL
set_option linter.all false
open Nat renaming reduceEqDiff → zA, reducePow → zB, reduceMul → zC, reduceAdd → zD, reduceSub → zE, reduceLeDiff → zF
open Int renaming reduceToNat → zG, reducePow → zH, reduceNeg → zI, reduceMul → zJ, reduceAdd → zK, reduceSub → zL, reduceLT → zM, reduceLE → zN, reduceEq → zO, reduceMod → zP, reduceDiv → zQ
section
set_option linter.unusedSimpArgs false
namespace Go.Vc
open Go Go.Key
theorem apart_of {fl : List SD} (h : ∀ i j (hi : i < fl.length) (hj : j < fl.length), j < i → ¬ (fl[j].tier = fl[i].tier ∧ fl[j].proj = fl[i].proj)) : Apart fl := by
  unfold Apart
  rw [List.pairwise_iff_getElem]
  intro j i hj hi hji
  exact h i j hi hj hji
end Go.Vc
namespace Go.Proofs.Ytnofalhkapmcnaa
open Go.Vc Go.Key Go.Cub
set_option maxRecDepth 100000
theorem filesIn_of {p : PD} {fl : List SD} (h1 : ∀ i (hi : i < fl.length), FlOk p fl[i]) (h2 : Apart fl) : FilesIn p fl := by
  have all : ∀ f ∈ fl, FlOk p f := fun f hf => by
    obtain ⟨i, hi, rfl⟩ := List.getElem_of_mem hf
    exact h1 i hi
  refine ⟨h2, fun f hf => (all f hf).proj, fun f hf hp => ?_⟩
  obtain ⟨h, e⟩ := (all f hf).of hp
  rw [List.getD_eq_getElem?_getD, List.getElem?_eq_getElem h]
  exact e
set_option maxHeartbeats 4000000 in
theorem files_c (m : MD) (w : World) (hm : m.Ok w) : FnC Try.prog 58 #[.agg (mdC m).toArray] w fun v w' => (∃ b : Bool, v = .bool b ∧ (b = true → FilesIn m.p m.fl ∧ m.fl.length ≤ 40)) ∧ Later w w' := by
  obtain ⟨fo, fc, hfv, hf1, hf2⟩ := RecS.slice hm.fv
  have fail : ∀ (w' : World), Later w w' → (∃ b : Bool, Value.bool false = .bool b ∧ (b = true → FilesIn m.p m.fl ∧ m.fl.length ≤ 40)) ∧ Later w w' := fun w' hl => ⟨⟨false, rfl, fun h => by cases h⟩, hl⟩
  refine enter58 _ ?_
  unfold B58
  have eca : (Value.agg (mdC m).toArray).cells = (mdC m).toArray := rfl
  have l1 := later_alloc w (.cells (mdC m).toArray 34)
  have B1 := Blk.new w (mdC m).toArray 34
  repeat' (first | (simp (disch := omega) only [push_cast, ↓reduceIte, zA, zG, zB, zH, zI, zC, zJ, zK, zL, zD, zE, zF, zM, zN, zO, zP, zQ, reduceCtorEq, not_true_eq_false, not_false_eq_true, eca]) | (first | refine iE ?_ ?_ | refine iD ?_ ?_ | refine iQ ?_ ?_ | refine iV ?_ ?_) <;> intro _ | refine And.intro (by omega) ?_ | fail)
  generalize w.alloc (.cells (mdC m).toArray 34) = w1 at *
  generalize hkf : w.heap.size = kf at *
  have FF : ∀ w', Later w1 w' → cellsAt w' ⟨kf, 2, none⟩ 3 = some (pdC m.p) ∧ w'.cell? ⟨kf, 9, none⟩ = some (.slice fo m.fl.length fc) ∧ w'.cell? ⟨kf, 10, none⟩ = some (.string m.jn) := by
    intro w' hl
    have B := mdLater B1 hl
    obtain ⟨_, _, h3, _⟩ := mdAt B
    refine ⟨h3, ?_, B.cell 10⟩
    rw [← hfv]
    exact B.cell 9
  refine vc_loop W58_0 (fun i : Nat => [(2, .bool false), (3, .int .i64 (i : Int))]) (fun i w' => i ≤ m.fl.length ∧ Later w1 w' ∧ (∀ j (h : j < m.fl.length), j < i → FlOk m.p m.fl[j]) ∧ ∀ a b (ha : a < m.fl.length) (hb : b < m.fl.length), a < i → b < a → ¬ (m.fl[b].tier = m.fl[a].tier ∧ m.fl[b].proj = m.fl[a].proj)) (fun i => m.fl.length - i) 0 (by decide) ?_ ?_ ?_
  · simp (disch := omega) only [push_cast, ↓reduceIte, zA, zG, zB, zH, zI, zC, zJ, zK, zL, zD, zE, zF, zM, zN, zO, zP, zQ, reduceCtorEq, not_true_eq_false, not_false_eq_true]
    try rfl
  · exact ⟨Nat.zero_le _, Later.refl _, fun j _ h => absurd h (Nat.not_lt_zero _), fun a b _ _ h => absurd h (Nat.not_lt_zero _)⟩
  rintro i uu w2 ⟨hi, l2, hok, hap⟩
  obtain ⟨f1, f2, f3⟩ := FF w2 l2
  by_cases hik : i < m.fl.length
  · have hd2 : decide ((i : Int) < (m.fl.length : Int)) = true := decide_eq_true (by omega)
    have hfs := hm.fv
    rw [hfv] at hfs
    obtain ⟨a, rfl, fa⟩ := RecS.at sdC_len (hfs.later (l1.trans l2)) hik
    have hsok := hm.fl _ (List.getElem_mem hik)
    repeat' (first | (simp (disch := omega) only [push_cast, ↓reduceIte, zA, zG, zB, zH, zI, zC, zJ, zK, zL, zD, zE, zF, zM, zN, zO, zP, zQ, reduceCtorEq, not_true_eq_false, not_false_eq_true, f2, hd2, addr_add_eq, Nat.zero_add]) | (first | refine iE ?_ ?_ | refine iD ?_ ?_ | refine iQ ?_ ?_ | refine iV ?_ ?_) <;> intro _ | refine And.intro (by omega) ?_ | fail)
    refine drawn_k 7 ?_
    repeat' (first | (simp (disch := omega) only [push_cast, ↓reduceIte, zA, zG, zB, zH, zI, zC, zJ, zK, zL, zD, zE, zF, zM, zN, zO, zP, zQ, reduceCtorEq, not_true_eq_false, not_false_eq_true, f1, f2, fa, hd2, addr_add_eq, Nat.zero_add]) | (first | refine iE ?_ ?_ | refine iD ?_ ?_ | refine iQ ?_ ?_ | refine iV ?_ ?_) <;> intro _ | refine And.intro (by omega) ?_ | fail)
    intro w3 l3
    repeat' (first | (simp (disch := omega) only [push_cast, ↓reduceIte, zA, zG, zB, zH, zI, zC, zJ, zK, zL, zD, zE, zF, zM, zN, zO, zP, zQ, reduceCtorEq, not_true_eq_false, not_false_eq_true]) | (first | refine iE ?_ ?_ | refine iD ?_ ?_ | refine iQ ?_ ?_ | refine iV ?_ ?_) <;> intro _ | refine And.intro (by omega) ?_ | fail)
    refine (file_c m.p m.fl[i] w3 (hm.p.later ((l1.trans l2).trans l3)) hsok).mono ?_
    rintro _ w4 ⟨⟨b, rfl, hb⟩, l4⟩
    have l24 := l2.trans (l3.trans l4)
    have l04 := l1.trans l24
    obtain ⟨f1, f2, f3⟩ := FF w4 l24
    have n0 : w4.cell? (a.add (i * 4)) = some (.string m.fl[i].name) := by
      have := RecS.cell (j := 0) sdC_len (hfs.later l04) hik rfl
      rwa [addr_add_zero] at this
    cases b with
    | false =>
      repeat' (first | (simp (disch := omega) only [push_cast, ↓reduceIte, zA, zG, zB, zH, zI, zC, zJ, zK, zL, zD, zE, zF, zM, zN, zO, zP, zQ, reduceCtorEq, not_true_eq_false, not_false_eq_true, f2, hd2]) | (first | refine iE ?_ ?_ | refine iD ?_ ?_ | refine iQ ?_ ?_ | refine iV ?_ ?_) <;> intro _ | refine And.intro (by omega) ?_ | fail)
      refine drawn_q ?_
      repeat' (first | (simp (disch := omega) only [push_cast, ↓reduceIte, zA, zG, zB, zH, zI, zC, zJ, zK, zL, zD, zE, zF, zM, zN, zO, zP, zQ, reduceCtorEq, not_true_eq_false, not_false_eq_true, f2, hd2]) | (first | refine iE ?_ ?_ | refine iD ?_ ?_ | refine iQ ?_ ?_ | refine iV ?_ ?_) <;> intro _ | refine And.intro (by omega) ?_ | fail)
      intro w5 l5
      repeat' (first | (simp (disch := omega) only [push_cast, ↓reduceIte, zA, zG, zB, zH, zI, zC, zJ, zK, zL, zD, zE, zF, zM, zN, zO, zP, zQ, reduceCtorEq, not_true_eq_false, not_false_eq_true]) | (first | refine iE ?_ ?_ | refine iD ?_ ?_ | refine iQ ?_ ?_ | refine iV ?_ ?_) <;> intro _ | refine And.intro (by omega) ?_ | fail)
      first | exact fail _ (l04.trans l5) | trace_state
    | true =>
    by_cases hj : m.fl[i].name = m.jn
    · have d1 := decide_eq_true hj
      repeat' (first | (simp (disch := omega) only [push_cast, ↓reduceIte, zA, zG, zB, zH, zI, zC, zJ, zK, zL, zD, zE, zF, zM, zN, zO, zP, zQ, reduceCtorEq, not_true_eq_false, not_false_eq_true, f2, hd2]) | (first | refine iE ?_ ?_ | refine iD ?_ ?_ | refine iQ ?_ ?_ | refine iV ?_ ?_) <;> intro _ | refine And.intro (by omega) ?_ | fail)
      refine drawn_q ?_
      repeat' (first | (simp (disch := omega) only [push_cast, ↓reduceIte, zA, zG, zB, zH, zI, zC, zJ, zK, zL, zD, zE, zF, zM, zN, zO, zP, zQ, reduceCtorEq, not_true_eq_false, not_false_eq_true, f2, f3, n0, d1, hd2, addr_add_eq, Nat.zero_add]) | (first | refine iE ?_ ?_ | refine iD ?_ ?_ | refine iQ ?_ ?_ | refine iV ?_ ?_) <;> intro _ | refine And.intro (by omega) ?_ | fail)
      intro w5 l5
      repeat' (first | (simp (disch := omega) only [push_cast, ↓reduceIte, zA, zG, zB, zH, zI, zC, zJ, zK, zL, zD, zE, zF, zM, zN, zO, zP, zQ, reduceCtorEq, not_true_eq_false, not_false_eq_true]) | (first | refine iE ?_ ?_ | refine iD ?_ ?_ | refine iQ ?_ ?_ | refine iV ?_ ?_) <;> intro _ | refine And.intro (by omega) ?_ | fail)
      first | exact fail _ (l04.trans l5) | trace_state
    have d1 := decide_eq_false hj
    repeat' (first | (simp (disch := omega) only [push_cast, ↓reduceIte, zA, zG, zB, zH, zI, zC, zJ, zK, zL, zD, zE, zF, zM, zN, zO, zP, zQ, reduceCtorEq, not_true_eq_false, not_false_eq_true, f2, hd2]) | (first | refine iE ?_ ?_ | refine iD ?_ ?_ | refine iQ ?_ ?_ | refine iV ?_ ?_) <;> intro _ | refine And.intro (by omega) ?_ | fail)
    refine drawn_q ?_
    repeat' (first | (simp (disch := omega) only [push_cast, ↓reduceIte, zA, zG, zB, zH, zI, zC, zJ, zK, zL, zD, zE, zF, zM, zN, zO, zP, zQ, reduceCtorEq, not_true_eq_false, not_false_eq_true, f2, f3, n0, d1, hd2, addr_add_eq, Nat.zero_add]) | (first | refine iE ?_ ?_ | refine iD ?_ ?_ | refine iQ ?_ ?_ | refine iV ?_ ?_) <;> intro _ | refine And.intro (by omega) ?_ | fail)
    intro w5 l5
    have l25 := l24.trans l5
    have hFl := hb rfl
    repeat' (first | (simp (disch := omega) only [push_cast, ↓reduceIte, zA, zG, zB, zH, zI, zC, zJ, zK, zL, zD, zE, zF, zM, zN, zO, zP, zQ, reduceCtorEq, not_true_eq_false, not_false_eq_true]) | (first | refine iE ?_ ?_ | refine iD ?_ ?_ | refine iQ ?_ ?_ | refine iV ?_ ?_) <;> intro _ | refine And.intro (by omega) ?_ | fail)
    refine vc_loop W58_1 (fun k : Nat => [(2, .bool false), (5, .int .i64 (k : Int))]) (fun k w' => k ≤ i ∧ Later w1 w' ∧ ∀ b (hb : b < m.fl.length), b < k → ¬ (m.fl[b].tier = m.fl[i].tier ∧ m.fl[b].proj = m.fl[i].proj)) (fun k => i - k) 0 (by decide) ?_ ?_ ?_
    · simp (disch := omega) only [push_cast, ↓reduceIte, zA, zG, zB, zH, zI, zC, zJ, zK, zL, zD, zE, zF, zM, zN, zO, zP, zQ, reduceCtorEq, not_true_eq_false, not_false_eq_true]
      try rfl
    · exact ⟨Nat.zero_le _, l25, fun b _ h => absurd h (Nat.not_lt_zero _)⟩
    rintro k uu2 w6 ⟨hk, l6, hno⟩
    obtain ⟨f1, f2, f3⟩ := FF w6 l6
    have l06 := l1.trans l6
    by_cases hkp : k < i
    · have hd3 : decide ((k : Int) < (i : Int)) = true := decide_eq_true (by omega)
      have hkl : k < m.fl.length := by omega
      have hd4 : decide ((k : Int) < (m.fl.length : Int)) = true := decide_eq_true (by omega)
      have hs6 := hfs.later l06
      have m0 : w6.cell? (a.add (k * 4)) = some (.string m.fl[k].name) := by
        have := RecS.cell (j := 0) sdC_len hs6 hkl rfl
        rwa [addr_add_zero] at this
      have m1 := RecS.cell (j := 1) sdC_len hs6 hkl rfl
      have m2 := RecS.cell (j := 2) sdC_len hs6 hkl rfl
      have n0 : w6.cell? (a.add (i * 4)) = some (.string m.fl[i].name) := by
        have := RecS.cell (j := 0) sdC_len hs6 hik rfl
        rwa [addr_add_zero] at this
      have n1 := RecS.cell (j := 1) sdC_len hs6 hik rfl
      have n2 := RecS.cell (j := 2) sdC_len hs6 hik rfl
      have next : ∀ w', Later w6 w' → ¬ (m.fl[k].tier = m.fl[i].tier ∧ m.fl[k].proj = m.fl[i].proj) → k + 1 ≤ i ∧ Later w1 w' ∧ ∀ b (hb : b < m.fl.length), b < k + 1 → ¬ (m.fl[b].tier = m.fl[i].tier ∧ m.fl[b].proj = m.fl[i].proj) := by
        intro w' hl hn
        refine ⟨by omega, l6.trans hl, fun b hb hbk => ?_⟩
        by_cases hbk' : b < k
        · exact hno b hb hbk'
        · have : b = k := by omega
          subst this; exact hn
      by_cases e0 : m.fl[k].name = m.fl[i].name
      · have d0 := decide_eq_true e0
        repeat' (first | (simp (disch := omega) only [push_cast, ↓reduceIte, zA, zG, zB, zH, zI, zC, zJ, zK, zL, zD, zE, zF, zM, zN, zO, zP, zQ, reduceCtorEq, not_true_eq_false, not_false_eq_true, hd3]) | (first | refine iE ?_ ?_ | refine iD ?_ ?_ | refine iQ ?_ ?_ | refine iV ?_ ?_) <;> intro _ | refine And.intro (by omega) ?_ | fail)
        refine drawn_q ?_
        repeat' (first | (simp (disch := omega) only [push_cast, ↓reduceIte, zA, zG, zB, zH, zI, zC, zJ, zK, zL, zD, zE, zF, zM, zN, zO, zP, zQ, reduceCtorEq, not_true_eq_false, not_false_eq_true, f2, m0, n0, d0, hd2, hd4, addr_add_eq, Nat.zero_add]) | (first | refine iE ?_ ?_ | refine iD ?_ ?_ | refine iQ ?_ ?_ | refine iV ?_ ?_) <;> intro _ | refine And.intro (by omega) ?_ | fail)
        intro w7 l7
        repeat' (first | (simp (disch := omega) only [push_cast, ↓reduceIte, zA, zG, zB, zH, zI, zC, zJ, zK, zL, zD, zE, zF, zM, zN, zO, zP, zQ, reduceCtorEq, not_true_eq_false, not_false_eq_true]) | (first | refine iE ?_ ?_ | refine iD ?_ ?_ | refine iQ ?_ ?_ | refine iV ?_ ?_) <;> intro _ | refine And.intro (by omega) ?_ | fail)
        first | exact fail _ (l06.trans l7) | trace_state
      have d0 := decide_eq_false e0
      by_cases e1 : m.fl[k].tier = m.fl[i].tier
      case neg =>
        have d1 := decide_eq_false e1
        repeat' (first | (simp (disch := omega) only [push_cast, ↓reduceIte, zA, zG, zB, zH, zI, zC, zJ, zK, zL, zD, zE, zF, zM, zN, zO, zP, zQ, reduceCtorEq, not_true_eq_false, not_false_eq_true, hd3]) | (first | refine iE ?_ ?_ | refine iD ?_ ?_ | refine iQ ?_ ?_ | refine iV ?_ ?_) <;> intro _ | refine And.intro (by omega) ?_ | fail)
        refine drawn_q ?_
        repeat' (first | (simp (disch := omega) only [push_cast, ↓reduceIte, zA, zG, zB, zH, zI, zC, zJ, zK, zL, zD, zE, zF, zM, zN, zO, zP, zQ, reduceCtorEq, not_true_eq_false, not_false_eq_true, f2, m0, n0, d0, m1, n1, d1, hd2, hd4, addr_add_eq, Nat.zero_add]) | (first | refine iE ?_ ?_ | refine iD ?_ ?_ | refine iQ ?_ ?_ | refine iV ?_ ?_) <;> intro _ | refine And.intro (by omega) ?_ | fail)
        intro w7 l7
        repeat' (first | (simp (disch := omega) only [push_cast, ↓reduceIte, zA, zG, zB, zH, zI, zC, zJ, zK, zL, zD, zE, zF, zM, zN, zO, zP, zQ, reduceCtorEq, not_true_eq_false, not_false_eq_true]) | (first | refine iE ?_ ?_ | refine iD ?_ ?_ | refine iQ ?_ ?_ | refine iV ?_ ?_) <;> intro _ | refine And.intro (by omega) ?_ | fail)
        exact ⟨rfl, k + 1, by simp (disch := omega) only [push_cast, ↓reduceIte, zA, zG, zB, zH, zI, zC, zJ, zK, zL, zD, zE, zF, zM, zN, zO, zP, zQ, reduceCtorEq, not_true_eq_false, not_false_eq_true], next w7 l7 (fun h => e1 h.1), by dsimp only; omega⟩
      have d1 := decide_eq_true e1
      by_cases e2 : m.fl[k].proj = m.fl[i].proj
      · have d2 := decide_eq_true e2
        repeat' (first | (simp (disch := omega) only [push_cast, ↓reduceIte, zA, zG, zB, zH, zI, zC, zJ, zK, zL, zD, zE, zF, zM, zN, zO, zP, zQ, reduceCtorEq, not_true_eq_false, not_false_eq_true, hd3]) | (first | refine iE ?_ ?_ | refine iD ?_ ?_ | refine iQ ?_ ?_ | refine iV ?_ ?_) <;> intro _ | refine And.intro (by omega) ?_ | fail)
        refine drawn_q ?_
        repeat' (first | (simp (disch := omega) only [push_cast, ↓reduceIte, zA, zG, zB, zH, zI, zC, zJ, zK, zL, zD, zE, zF, zM, zN, zO, zP, zQ, reduceCtorEq, not_true_eq_false, not_false_eq_true, f2, m0, n0, d0, m1, n1, d1, m2, n2, d2, hd2, hd4, addr_add_eq, Nat.zero_add]) | (first | refine iE ?_ ?_ | refine iD ?_ ?_ | refine iQ ?_ ?_ | refine iV ?_ ?_) <;> intro _ | refine And.intro (by omega) ?_ | fail)
        intro w7 l7
        repeat' (first | (simp (disch := omega) only [push_cast, ↓reduceIte, zA, zG, zB, zH, zI, zC, zJ, zK, zL, zD, zE, zF, zM, zN, zO, zP, zQ, reduceCtorEq, not_true_eq_false, not_false_eq_true]) | (first | refine iE ?_ ?_ | refine iD ?_ ?_ | refine iQ ?_ ?_ | refine iV ?_ ?_) <;> intro _ | refine And.intro (by omega) ?_ | fail)
        first | exact fail _ (l06.trans l7) | trace_state
      have d2 := decide_eq_false e2
      repeat' (first | (simp (disch := omega) only [push_cast, ↓reduceIte, zA, zG, zB, zH, zI, zC, zJ, zK, zL, zD, zE, zF, zM, zN, zO, zP, zQ, reduceCtorEq, not_true_eq_false, not_false_eq_true, hd3]) | (first | refine iE ?_ ?_ | refine iD ?_ ?_ | refine iQ ?_ ?_ | refine iV ?_ ?_) <;> intro _ | refine And.intro (by omega) ?_ | fail)
      refine drawn_q ?_
      repeat' (first | (simp (disch := omega) only [push_cast, ↓reduceIte, zA, zG, zB, zH, zI, zC, zJ, zK, zL, zD, zE, zF, zM, zN, zO, zP, zQ, reduceCtorEq, not_true_eq_false, not_false_eq_true, f2, m0, n0, d0, m1, n1, d1, m2, n2, d2, hd2, hd4, addr_add_eq, Nat.zero_add]) | (first | refine iE ?_ ?_ | refine iD ?_ ?_ | refine iQ ?_ ?_ | refine iV ?_ ?_) <;> intro _ | refine And.intro (by omega) ?_ | fail)
      intro w7 l7
      repeat' (first | (simp (disch := omega) only [push_cast, ↓reduceIte, zA, zG, zB, zH, zI, zC, zJ, zK, zL, zD, zE, zF, zM, zN, zO, zP, zQ, reduceCtorEq, not_true_eq_false, not_false_eq_true]) | (first | refine iE ?_ ?_ | refine iD ?_ ?_ | refine iQ ?_ ?_ | refine iV ?_ ?_) <;> intro _ | refine And.intro (by omega) ?_ | fail)
      exact ⟨rfl, k + 1, by simp (disch := omega) only [push_cast, ↓reduceIte, zA, zG, zB, zH, zI, zC, zJ, zK, zL, zD, zE, zF, zM, zN, zO, zP, zQ, reduceCtorEq, not_true_eq_false, not_false_eq_true], next w7 l7 (fun h => e2 h.2), by dsimp only; omega⟩
    · have hd3 : decide ((k : Int) < (i : Int)) = false := decide_eq_false (by omega)
      repeat' (first | (simp (disch := omega) only [push_cast, ↓reduceIte, zA, zG, zB, zH, zI, zC, zJ, zK, zL, zD, zE, zF, zM, zN, zO, zP, zQ, reduceCtorEq, not_true_eq_false, not_false_eq_true, hd3]) | (first | refine iE ?_ ?_ | refine iD ?_ ?_ | refine iQ ?_ ?_ | refine iV ?_ ?_) <;> intro _ | refine And.intro (by omega) ?_ | fail)
      refine ⟨rfl, i + 1, by simp (disch := omega) only [push_cast, ↓reduceIte, zA, zG, zB, zH, zI, zC, zJ, zK, zL, zD, zE, zF, zM, zN, zO, zP, zQ, reduceCtorEq, not_true_eq_false, not_false_eq_true], ⟨by omega, l6, fun j hj hji => ?_, fun x y hx hy hxi hyx => ?_⟩, by dsimp only; omega⟩
      · by_cases hj' : j < i
        · exact hok j hj hj'
        · have : j = i := by omega
          subst this; exact hFl
      · by_cases hx' : x < i
        · exact hap x y hx hy hx' hyx
        · have : x = i := by omega
          subst this; exact hno y hy (by omega)
  · have hd2 : decide ((i : Int) < (m.fl.length : Int)) = false := decide_eq_false (by omega)
    have l02 := l1.trans l2
    have hres : FilesIn m.p m.fl := filesIn_of (fun j hj => hok j hj (by omega)) (apart_of fun a b ha hb hba => hap a b ha hb (by omega) hba)
    repeat' (first | (simp (disch := omega) only [push_cast, ↓reduceIte, zA, zG, zB, zH, zI, zC, zJ, zK, zL, zD, zE, zF, zM, zN, zO, zP, zQ, reduceCtorEq, not_true_eq_false, not_false_eq_true, f2, f3, hd2, addr_add_eq, Nat.zero_add]) | (first | refine iE ?_ ?_ | refine iD ?_ ?_ | refine iQ ?_ ?_ | refine iV ?_ ?_) <;> intro _ | refine And.intro (by omega) ?_ | fail)
    refine (fname_c m.jn w2 (Nat.le_trans hm.jn (by unfold Bz; omega))).mono ?_
    rintro _ w0 ⟨rfl, h0⟩; obtain rfl := h0.symm
    by_cases h40 : m.fl.length ≤ 40
    · have d40 : decide ((m.fl.length : Int) ≤ 40) = true := decide_eq_true (by omega)
      have fin : ∀ b : Bool, (∃ b' : Bool, Value.bool b = .bool b' ∧ (b' = true → FilesIn m.p m.fl ∧ m.fl.length ≤ 40)) ∧ Later w w2 := fun b => ⟨⟨b, rfl, fun _ => ⟨hres, h40⟩⟩, l02⟩
      cases hF : fnOk m.jn with
      | false =>
        repeat' (first | (simp (disch := omega) only [push_cast, ↓reduceIte, zA, zG, zB, zH, zI, zC, zJ, zK, zL, zD, zE, zF, zM, zN, zO, zP, zQ, reduceCtorEq, not_true_eq_false, not_false_eq_true, f2, f3, d40, addr_add_eq, Nat.zero_add]) | (first | refine iE ?_ ?_ | refine iD ?_ ?_ | refine iQ ?_ ?_ | refine iV ?_ ?_) <;> intro _ | refine And.intro (by omega) ?_ | fail)
        all_goals first | exact fin _ | trace_state
      | true =>
      by_cases n1 : m.jn = (⟨#[109, 97, 110, 105, 102, 101, 115, 116]⟩ : ByteArray)
      · have e1 := decide_eq_true n1
        repeat' (first | (simp (disch := omega) only [push_cast, ↓reduceIte, zA, zG, zB, zH, zI, zC, zJ, zK, zL, zD, zE, zF, zM, zN, zO, zP, zQ, reduceCtorEq, not_true_eq_false, not_false_eq_true, f2, f3, d40, e1, addr_add_eq, Nat.zero_add]) | (first | refine iE ?_ ?_ | refine iD ?_ ?_ | refine iQ ?_ ?_ | refine iV ?_ ?_) <;> intro _ | refine And.intro (by omega) ?_ | fail)
        all_goals first | exact fin _ | trace_state
      · have e1 := decide_eq_false n1
        repeat' (first | (simp (disch := omega) only [push_cast, ↓reduceIte, zA, zG, zB, zH, zI, zC, zJ, zK, zL, zD, zE, zF, zM, zN, zO, zP, zQ, reduceCtorEq, not_true_eq_false, not_false_eq_true, f2, f3, d40, e1, addr_add_eq, Nat.zero_add]) | (first | refine iE ?_ ?_ | refine iD ?_ ?_ | refine iQ ?_ ?_ | refine iV ?_ ?_) <;> intro _ | refine And.intro (by omega) ?_ | fail)
        all_goals first | exact fin _ | trace_state
    · have d40 : decide ((m.fl.length : Int) ≤ 40) = false := decide_eq_false (by omega)
      repeat' (first | (simp (disch := omega) only [push_cast, ↓reduceIte, zA, zG, zB, zH, zI, zC, zJ, zK, zL, zD, zE, zF, zM, zN, zO, zP, zQ, reduceCtorEq, not_true_eq_false, not_false_eq_true, f2, f3, d40, addr_add_eq, Nat.zero_add]) | (first | refine iE ?_ ?_ | refine iD ?_ ?_ | refine iQ ?_ ?_ | refine iV ?_ ?_) <;> intro _ | refine And.intro (by omega) ?_ | fail)
      all_goals first | exact fail _ l02 | trace_state
end Go.Proofs.Ytnofalhkapmcnaa
end
section
set_option linter.unusedSimpArgs false
namespace Go.Proofs.Ytnofalhkapmcnaa
open Go.Vc Go.Key Go.Cub
set_option maxRecDepth 100000
structure RgOk (m : MD) : Prop where
  sc : ScOk m.dl m.ml
  pl : PlOk m.dl m.p
  ln : m.el.length = m.p.tl.length
  e0 : ∀ i, i < m.el.length → 0 ≤ m.el.getD i 0
  fall : Fall m.el
  top : 0 < m.el.length → m.el.getD 0 0 ≤ m.now
  now : 0 ≤ m.now ∧ m.now ≤ 1099511627776
  fi : FilesIn m.p m.fl
  fn : m.fl.length ≤ 40
def lastE (m : MD) : Nat → Int
  | 0 => m.now
  | i + 1 => m.el.getD i 0
set_option maxHeartbeats 4000000 in
theorem right20_c (m : MD) (w : World) (hm : m.Ok w) (hd : m.dl.length ≤ 2000000) (hml : m.ml.length ≤ 2000000) : FnC Try.prog 20 #[.agg (mdC m).toArray] w fun v w' => (∃ b : Bool, v = .bool b ∧ (b = true → RgOk m)) ∧ Later w w' := by
  obtain ⟨eo, ec, hev, he1, he2, he, he0⟩ := hm.ev.openM
  obtain ⟨so, sc, hsv, hs1, hs2, hs, hs0⟩ := hm.sv.openM
  obtain ⟨to, tc, htv, ht1, ht2⟩ := RecS.slice hm.p.tv
  obtain ⟨mo, mc, hmv⟩ := Sl.slice hm.mv
  rw [List.length_map] at hmv
  have fail : ∀ (w' : World), Later w w' → (∃ b : Bool, Value.bool false = .bool b ∧ (b = true → RgOk m)) ∧ Later w w' := fun w' hl => ⟨⟨false, rfl, fun h => by cases h⟩, hl⟩
  refine enter20 _ ?_
  unfold B20
  have eca : (Value.agg (mdC m).toArray).cells = (mdC m).toArray := rfl
  have l1 := later_alloc w (.cells (mdC m).toArray 34)
  have B1 := Blk.new w (mdC m).toArray 34
  repeat' (first | (simp (disch := omega) only [push_cast, ↓reduceIte, zA, zG, zB, zH, zI, zC, zJ, zK, zL, zD, zE, zF, zM, zN, zO, zP, zQ, reduceCtorEq, not_true_eq_false, not_false_eq_true, eca]) | (first | refine iE ?_ ?_ | refine iD ?_ ?_ | refine iQ ?_ ?_ | refine iV ?_ ?_) <;> intro _ | refine And.intro (by omega) ?_ | fail)
  generalize w.alloc (.cells (mdC m).toArray 34) = w1 at *
  generalize hkf : w.heap.size = kf at *
  have FF : ∀ w', Later w1 w' → cellsAt w' ⟨kf, 0, none⟩ 2 = some [m.dv, m.mv] ∧ cellsAt w' ⟨kf, 2, none⟩ 3 = some (pdC m.p) ∧ w'.cell? ⟨kf, 1, none⟩ = some (.slice mo m.ml.length mc) ∧ w'.cell? ⟨kf, 2, none⟩ = some (.slice to m.p.tl.length tc) ∧ w'.cell? ⟨kf, 5, none⟩ = some (.int .i64 m.now) ∧
      w'.cell? ⟨kf, 6, none⟩ = some (.slice eo m.el.length ec) ∧ w'.cell? ⟨kf, 7, none⟩ = some (.int .i64 m.cnt) ∧ w'.cell? ⟨kf, 8, none⟩ = some (.slice so m.sl.length sc) ∧ w'.cell? ⟨kf, 11, none⟩ = some (.int .i64 m.nx) ∧ cellsAt w' ⟨kf, 0, none⟩ 12 = some (mdC m) := by
    intro w' hl
    have B := mdLater B1 hl
    obtain ⟨h0, h1, h3, h4, h5, h6, h7, _, _, h8⟩ := mdAt B
    rw [← hmv, ← htv, ← hev, ← hsv]
    refine ⟨?_, h3, h1, B.cell 2, h4, h5, h6, h7, h8, Blk.cellsAt (l := mdC m) B⟩
    refine cellsAt_of 2 _ _ rfl fun i x hx => ?_
    rw [addr_add_eq]
    match i, hx with
    | 0, hx => cases hx; exact h0
    | 1, hx => cases hx; exact h1
    | n + 2, hx => exact absurd hx (by simp)
  have hsc : ∀ w', Later w w' → ScIs w' m.dv m.mv m.dl m.ml := fun w' hl => ⟨Sl.later hm.dv hl, Sl.later hm.mv hl, bz_le hm.dl, bz_le hm.ml⟩
  obtain ⟨f1, f2, f3, f4, f5, f6, f7, f8, f9, f10⟩ := FF w1 (Later.refl _)
  repeat' (first | (simp (disch := omega) only [push_cast, ↓reduceIte, zA, zG, zB, zH, zI, zC, zJ, zK, zL, zD, zE, zF, zM, zN, zO, zP, zQ, reduceCtorEq, not_true_eq_false, not_false_eq_true, f1, addr_add_eq, Nat.zero_add]) | (first | refine iE ?_ ?_ | refine iD ?_ ?_ | refine iQ ?_ ?_ | refine iV ?_ ?_) <;> intro _ | refine And.intro (by omega) ?_ | fail)
  refine (dschema_c m.dv m.mv m.dl m.ml w1 (hsc w1 l1) hd hml).mono ?_
  rintro _ w2 ⟨rfl, l2⟩
  have l02 := l1.trans l2
  by_cases hS : ScOk m.dl m.ml
  case neg =>
    have d1 := decide_eq_false hS
    repeat' (first | (simp (disch := omega) only [push_cast, ↓reduceIte, zA, zG, zB, zH, zI, zC, zJ, zK, zL, zD, zE, zF, zM, zN, zO, zP, zQ, reduceCtorEq, not_true_eq_false, not_false_eq_true, d1]) | (first | refine iE ?_ ?_ | refine iD ?_ ?_ | refine iQ ?_ ?_ | refine iV ?_ ?_) <;> intro _ | refine And.intro (by omega) ?_ | fail)
    exact fail _ l02
  have d1 := decide_eq_true hS
  obtain ⟨f1, f2, f3, f4, f5, f6, f7, f8, f9, f10⟩ := FF w2 l2
  repeat' (first | (simp (disch := omega) only [push_cast, ↓reduceIte, zA, zG, zB, zH, zI, zC, zJ, zK, zL, zD, zE, zF, zM, zN, zO, zP, zQ, reduceCtorEq, not_true_eq_false, not_false_eq_true, d1, f1, f2, addr_add_eq, Nat.zero_add]) | (first | refine iE ?_ ?_ | refine iD ?_ ?_ | refine iQ ?_ ?_ | refine iV ?_ ?_) <;> intro _ | refine And.intro (by omega) ?_ | fail)
  refine (pcheck_c m.dv m.mv m.dl m.ml m.p w2 (hsc w2 l02) (hm.p.later l02)).mono ?_
  rintro _ w3 ⟨⟨e, rfl, hpe⟩, l3⟩
  have l03 := l02.trans l3
  have l13 := l2.trans l3
  by_cases hE : e = 0
  case neg =>
    have d2 := decide_eq_false hE
    repeat' (first | (simp (disch := omega) only [push_cast, ↓reduceIte, zA, zG, zB, zH, zI, zC, zJ, zK, zL, zD, zE, zF, zM, zN, zO, zP, zQ, reduceCtorEq, not_true_eq_false, not_false_eq_true, d2]) | (first | refine iE ?_ ?_ | refine iD ?_ ?_ | refine iQ ?_ ?_ | refine iV ?_ ?_) <;> intro _ | refine And.intro (by omega) ?_ | fail)
    exact fail _ l03
  have hP := hpe hE
  have d2 := decide_eq_true hE
  obtain ⟨f1, f2, f3, f4, f5, f6, f7, f8, f9, f10⟩ := FF w3 l13
  by_cases hN : m.el.length = m.p.tl.length
  case neg =>
    have d3 : decide ((m.el.length : Int) = (m.p.tl.length : Int)) = false := decide_eq_false (by omega)
    repeat' (first | (simp (disch := omega) only [push_cast, ↓reduceIte, zA, zG, zB, zH, zI, zC, zJ, zK, zL, zD, zE, zF, zM, zN, zO, zP, zQ, reduceCtorEq, not_true_eq_false, not_false_eq_true, d2, f4, f6, d3, addr_add_eq, Nat.zero_add]) | (first | refine iE ?_ ?_ | refine iD ?_ ?_ | refine iQ ?_ ?_ | refine iV ?_ ?_) <;> intro _ | refine And.intro (by omega) ?_ | fail)
    exact fail _ l03
  have d3 : decide ((m.el.length : Int) = (m.p.tl.length : Int)) = true := decide_eq_true (by omega)
  by_cases hM : m.sl.length = m.ml.length
  case neg =>
    have d4 : decide ((m.sl.length : Int) = (m.ml.length : Int)) = false := decide_eq_false (by omega)
    repeat' (first | (simp (disch := omega) only [push_cast, ↓reduceIte, zA, zG, zB, zH, zI, zC, zJ, zK, zL, zD, zE, zF, zM, zN, zO, zP, zQ, reduceCtorEq, not_true_eq_false, not_false_eq_true, d2, f4, f6, f3, f8, d3, d4, addr_add_eq, Nat.zero_add]) | (first | refine iE ?_ ?_ | refine iD ?_ ?_ | refine iQ ?_ ?_ | refine iV ?_ ?_) <;> intro _ | refine And.intro (by omega) ?_ | fail)
    exact fail _ l03
  have d4 : decide ((m.sl.length : Int) = (m.ml.length : Int)) = true := decide_eq_true (by omega)
  repeat' (first | (simp (disch := omega) only [push_cast, ↓reduceIte, zA, zG, zB, zH, zI, zC, zJ, zK, zL, zD, zE, zF, zM, zN, zO, zP, zQ, reduceCtorEq, not_true_eq_false, not_false_eq_true, d2, f4, f5, f6, f3, f8, d3, d4, addr_add_eq, Nat.zero_add]) | (first | refine iE ?_ ?_ | refine iD ?_ ?_ | refine iQ ?_ ?_ | refine iV ?_ ?_) <;> intro _ | refine And.intro (by omega) ?_ | fail)
  refine vc_loop W20_0 (fun i : Nat => [(4, .int .i64 (lastE m i)), (5, .int .i64 (i : Int))]) (fun i w' => i ≤ m.el.length ∧ Later w1 w' ∧ ∀ j, j < i → 0 ≤ m.el.getD j 0 ∧ m.el.getD j 0 ≤ lastE m j) (fun i => m.el.length - i) 0 (by decide) ?_ ?_ ?_
  · simp (disch := omega) only [push_cast, ↓reduceIte, zA, zG, zB, zH, zI, zC, zJ, zK, zL, zD, zE, zF, zM, zN, zO, zP, zQ, reduceCtorEq, not_true_eq_false, not_false_eq_true]
    try rfl
  · exact ⟨Nat.zero_le _, l13, fun j h => absurd h (Nat.not_lt_zero _)⟩
  rintro i uu w4 ⟨hi, l4, hfa⟩
  obtain ⟨f1, f2, f3, f4, f5, f6, f7, f8, f9, f10⟩ := FF w4 l4
  have l04 := l1.trans l4
  by_cases hik : i < m.el.length
  · have dd : decide ((i : Int) < (m.el.length : Int)) = true := decide_eq_true (by omega)
    obtain ⟨a, rfl, ea⟩ := int_at (Sl.later he l04) hik
    have hls : lastE m (i + 1) = m.el.getD i 0 := rfl
    generalize hv : m.el.getD i 0 = E at *
    repeat' (first | (simp (disch := omega) only [push_cast, ↓reduceIte, zA, zG, zB, zH, zI, zC, zJ, zK, zL, zD, zE, zF, zM, zN, zO, zP, zQ, reduceCtorEq, not_true_eq_false, not_false_eq_true, f6, dd, ea, addr_add_eq, Nat.zero_add]) | (first | refine iE ?_ ?_ | refine iD ?_ ?_ | refine iQ ?_ ?_ | refine iV ?_ ?_) <;> intro _ | refine And.intro (by omega) ?_ | fail)
    refine (within_c E 0 (lastE m i) w4).mono ?_
    rintro _ w0 ⟨rfl, h0⟩; obtain rfl := h0.symm
    by_cases hr : 0 ≤ E ∧ E ≤ lastE m i
    · have dr : (decide (0 ≤ E) && decide (E ≤ lastE m i)) = true := by simp [hr.1, hr.2]
      repeat' (first | (simp (disch := omega) only [push_cast, ↓reduceIte, zA, zG, zB, zH, zI, zC, zJ, zK, zL, zD, zE, zF, zM, zN, zO, zP, zQ, reduceCtorEq, not_true_eq_false, not_false_eq_true, dr, f6, dd, ea, addr_add_eq, Nat.zero_add]) | (first | refine iE ?_ ?_ | refine iD ?_ ?_ | refine iQ ?_ ?_ | refine iV ?_ ?_) <;> intro _ | refine And.intro (by omega) ?_ | fail)
      refine ⟨rfl, i + 1, by simp (disch := omega) only [push_cast, ↓reduceIte, zA, zG, zB, zH, zI, zC, zJ, zK, zL, zD, zE, zF, zM, zN, zO, zP, zQ, reduceCtorEq, not_true_eq_false, not_false_eq_true, hls], ⟨by omega, l4, fun j hj => ?_⟩, by dsimp only; omega⟩
      by_cases hji : j < i
      · exact hfa j hji
      · have : j = i := by omega
        subst this
        rw [hv]
        exact hr
    · have dr : (decide (0 ≤ E) && decide (E ≤ lastE m i)) = false := by
        rw [Bool.and_eq_false_iff, decide_eq_false_iff_not, decide_eq_false_iff_not]; omega
      repeat' (first | (simp (disch := omega) only [push_cast, ↓reduceIte, zA, zG, zB, zH, zI, zC, zJ, zK, zL, zD, zE, zF, zM, zN, zO, zP, zQ, reduceCtorEq, not_true_eq_false, not_false_eq_true, dr]) | (first | refine iE ?_ ?_ | refine iD ?_ ?_ | refine iQ ?_ ?_ | refine iV ?_ ?_) <;> intro _ | refine And.intro (by omega) ?_ | fail)
      exact fail _ l04
  have dd : decide ((i : Int) < (m.el.length : Int)) = false := decide_eq_false (by omega)
  obtain rfl : i = m.el.length := by omega
  repeat' (first | (simp (disch := omega) only [push_cast, ↓reduceIte, zA, zG, zB, zH, zI, zC, zJ, zK, zL, zD, zE, zF, zM, zN, zO, zP, zQ, reduceCtorEq, not_true_eq_false, not_false_eq_true, f6, dd, addr_add_eq, Nat.zero_add]) | (first | refine iE ?_ ?_ | refine iD ?_ ?_ | refine iQ ?_ ?_ | refine iV ?_ ?_) <;> intro _ | refine And.intro (by omega) ?_ | fail)
  refine vc_loop W20_1 (fun i : Nat => [(7, .int .i64 (i : Int))]) (fun i w' => i ≤ m.sl.length ∧ Later w1 w') (fun i => m.sl.length - i) 0 (by decide) ?_ ?_ ?_
  · simp (disch := omega) only [push_cast, ↓reduceIte, zA, zG, zB, zH, zI, zC, zJ, zK, zL, zD, zE, zF, zM, zN, zO, zP, zQ, reduceCtorEq, not_true_eq_false, not_false_eq_true]
    try rfl
  · exact ⟨Nat.zero_le _, l4⟩
  rintro k uu2 w5 ⟨hk, l5⟩
  obtain ⟨f1, f2, f3, f4, f5, f6, f7, f8, f9, f10⟩ := FF w5 l5
  have l05 := l1.trans l5
  by_cases hkl : k < m.sl.length
  · have dk : decide ((k : Int) < (m.sl.length : Int)) = true := decide_eq_true (by omega)
    obtain ⟨a, rfl, ea⟩ := int_at (Sl.later hs l05) hkl
    generalize hv : m.sl.getD k 0 = E at *
    repeat' (first | (simp (disch := omega) only [push_cast, ↓reduceIte, zA, zG, zB, zH, zI, zC, zJ, zK, zL, zD, zE, zF, zM, zN, zO, zP, zQ, reduceCtorEq, not_true_eq_false, not_false_eq_true, f8, dk, ea, addr_add_eq, Nat.zero_add]) | (first | refine iE ?_ ?_ | refine iD ?_ ?_ | refine iQ ?_ ?_ | refine iV ?_ ?_) <;> intro _ | refine And.intro (by omega) ?_ | fail)
    refine (within_c E 0 4611686018427387904 w5).mono ?_
    rintro _ w0 ⟨rfl, h0⟩; obtain rfl := h0.symm
    cases hr : (decide (0 ≤ E) && decide (E ≤ 4611686018427387904)) with
    | true =>
      repeat' (first | (simp (disch := omega) only [push_cast, ↓reduceIte, zA, zG, zB, zH, zI, zC, zJ, zK, zL, zD, zE, zF, zM, zN, zO, zP, zQ, reduceCtorEq, not_true_eq_false, not_false_eq_true]) | (first | refine iE ?_ ?_ | refine iD ?_ ?_ | refine iQ ?_ ?_ | refine iV ?_ ?_) <;> intro _ | refine And.intro (by omega) ?_ | fail)
      exact ⟨rfl, k + 1, by simp (disch := omega) only [push_cast, ↓reduceIte, zA, zG, zB, zH, zI, zC, zJ, zK, zL, zD, zE, zF, zM, zN, zO, zP, zQ, reduceCtorEq, not_true_eq_false, not_false_eq_true], ⟨by omega, l5⟩, by dsimp only; omega⟩
    | false =>
      repeat' (first | (simp (disch := omega) only [push_cast, ↓reduceIte, zA, zG, zB, zH, zI, zC, zJ, zK, zL, zD, zE, zF, zM, zN, zO, zP, zQ, reduceCtorEq, not_true_eq_false, not_false_eq_true]) | (first | refine iE ?_ ?_ | refine iD ?_ ?_ | refine iQ ?_ ?_ | refine iV ?_ ?_) <;> intro _ | refine And.intro (by omega) ?_ | fail)
      exact fail _ l05
  have dk : decide ((k : Int) < (m.sl.length : Int)) = false := decide_eq_false (by omega)
  repeat' (first | (simp (disch := omega) only [push_cast, ↓reduceIte, zA, zG, zB, zH, zI, zC, zJ, zK, zL, zD, zE, zF, zM, zN, zO, zP, zQ, reduceCtorEq, not_true_eq_false, not_false_eq_true, f8, dk, f5, addr_add_eq, Nat.zero_add]) | (first | refine iE ?_ ?_ | refine iD ?_ ?_ | refine iQ ?_ ?_ | refine iV ?_ ?_) <;> intro _ | refine And.intro (by omega) ?_ | fail)
  refine (within_c m.now 0 1099511627776 w5).mono ?_
  rintro _ w0 ⟨rfl, h0⟩; obtain rfl := h0.symm
  have hfin : (decide (0 ≤ m.now) && decide (m.now ≤ 1099511627776)) = true → FilesIn m.p m.fl ∧ m.fl.length ≤ 40 → RgOk m := by
    intro hn hF
    simp only [Bool.and_eq_true, decide_eq_true_eq] at hn
    refine ⟨hS, hP, hN, fun i hi => (hfa i hi).1, fun i hi => (hfa (i + 1) hi).2, fun h => (hfa 0 h).2, hn, hF.1, hF.2⟩
  -- the rest: two more tests, the files
  have rest : ∀ (b1 b2 : Bool) (w' : World), (b1 = true → (decide (0 ≤ m.now) && decide (m.now ≤ 1099511627776)) = true) → Later w w' → ∀ b3 : Bool, (b3 = true → FilesIn m.p m.fl ∧ m.fl.length ≤ 40) → (∃ b : Bool, Value.bool (b1 && b2 && b3) = .bool b ∧ (b = true → RgOk m)) ∧ Later w w' := by
    intro b1 b2 w' h1 hl b3 h3
    refine ⟨⟨_, rfl, fun h => ?_⟩, hl⟩
    simp only [Bool.and_eq_true] at h
    exact hfin (h1 h.1.1) (h3 h.2)
  cases hn : (decide (0 ≤ m.now) && decide (m.now ≤ 1099511627776)) with
  | false =>
    repeat' (first | (simp (disch := omega) only [push_cast, ↓reduceIte, zA, zG, zB, zH, zI, zC, zJ, zK, zL, zD, zE, zF, zM, zN, zO, zP, zQ, reduceCtorEq, not_true_eq_false, not_false_eq_true, f9, addr_add_eq, Nat.zero_add]) | (first | refine iE ?_ ?_ | refine iD ?_ ?_ | refine iQ ?_ ?_ | refine iV ?_ ?_) <;> intro _ | refine And.intro (by omega) ?_ | fail)
    refine (within_c m.nx 0 1073741824 w5).mono ?_
    rintro _ w0 ⟨rfl, h0⟩; obtain rfl := h0.symm
    repeat' (first | (simp (disch := omega) only [push_cast, ↓reduceIte, zA, zG, zB, zH, zI, zC, zJ, zK, zL, zD, zE, zF, zM, zN, zO, zP, zQ, reduceCtorEq, not_true_eq_false, not_false_eq_true, f10, addr_add_eq, Nat.zero_add]) | (first | refine iE ?_ ?_ | refine iD ?_ ?_ | refine iQ ?_ ?_ | refine iV ?_ ?_) <;> intro _ | refine And.intro (by omega) ?_ | fail)
    refine (files_c m w5 (hm.later l05)).mono ?_
    rintro _ w6 ⟨⟨b, rfl, hb⟩, l6⟩
    repeat' (first | (simp (disch := omega) only [push_cast, ↓reduceIte, zA, zG, zB, zH, zI, zC, zJ, zK, zL, zD, zE, zF, zM, zN, zO, zP, zQ, reduceCtorEq, not_true_eq_false, not_false_eq_true]) | (first | refine iE ?_ ?_ | refine iD ?_ ?_ | refine iQ ?_ ?_ | refine iV ?_ ?_) <;> intro _ | refine And.intro (by omega) ?_ | refine drawn_q ?_ | fail)
    all_goals exact fail _ (l05.trans l6)
  | true =>
    repeat' (first | (simp (disch := omega) only [push_cast, ↓reduceIte, zA, zG, zB, zH, zI, zC, zJ, zK, zL, zD, zE, zF, zM, zN, zO, zP, zQ, reduceCtorEq, not_true_eq_false, not_false_eq_true, f7, addr_add_eq, Nat.zero_add]) | (first | refine iE ?_ ?_ | refine iD ?_ ?_ | refine iQ ?_ ?_ | refine iV ?_ ?_) <;> intro _ | refine And.intro (by omega) ?_ | fail)
    refine (within_c m.cnt 0 1048576 w5).mono ?_
    rintro _ w0 ⟨rfl, h0⟩; obtain rfl := h0.symm
    repeat' (first | (simp (disch := omega) only [push_cast, ↓reduceIte, zA, zG, zB, zH, zI, zC, zJ, zK, zL, zD, zE, zF, zM, zN, zO, zP, zQ, reduceCtorEq, not_true_eq_false, not_false_eq_true, f9, addr_add_eq, Nat.zero_add]) | (first | refine iE ?_ ?_ | refine iD ?_ ?_ | refine iQ ?_ ?_ | refine iV ?_ ?_) <;> intro _ | refine And.intro (by omega) ?_ | fail)
    refine (within_c m.nx 0 1073741824 w5).mono ?_
    rintro _ w0 ⟨rfl, h0⟩; obtain rfl := h0.symm
    repeat' (first | (simp (disch := omega) only [push_cast, ↓reduceIte, zA, zG, zB, zH, zI, zC, zJ, zK, zL, zD, zE, zF, zM, zN, zO, zP, zQ, reduceCtorEq, not_true_eq_false, not_false_eq_true, f10, addr_add_eq, Nat.zero_add]) | (first | refine iE ?_ ?_ | refine iD ?_ ?_ | refine iQ ?_ ?_ | refine iV ?_ ?_) <;> intro _ | refine And.intro (by omega) ?_ | fail)
    refine (files_c m w5 (hm.later l05)).mono ?_
    rintro _ w6 ⟨⟨b, rfl, hb⟩, l6⟩
    generalize (decide (0 ≤ m.cnt) && decide (m.cnt ≤ 1048576)) = b1
    generalize (decide (0 ≤ m.nx) && decide (m.nx ≤ 1073741824)) = b2
    cases b1
    · repeat' (first | (simp (disch := omega) only [push_cast, ↓reduceIte, zA, zG, zB, zH, zI, zC, zJ, zK, zL, zD, zE, zF, zM, zN, zO, zP, zQ, reduceCtorEq, not_true_eq_false, not_false_eq_true]) | (first | refine iE ?_ ?_ | refine iD ?_ ?_ | refine iQ ?_ ?_ | refine iV ?_ ?_) <;> intro _ | refine And.intro (by omega) ?_ | refine drawn_q ?_ | fail)
      all_goals exact fail _ (l05.trans l6)
    cases b2
    · repeat' (first | (simp (disch := omega) only [push_cast, ↓reduceIte, zA, zG, zB, zH, zI, zC, zJ, zK, zL, zD, zE, zF, zM, zN, zO, zP, zQ, reduceCtorEq, not_true_eq_false, not_false_eq_true]) | (first | refine iE ?_ ?_ | refine iD ?_ ?_ | refine iQ ?_ ?_ | refine iV ?_ ?_) <;> intro _ | refine And.intro (by omega) ?_ | refine drawn_q ?_ | fail)
      all_goals exact fail _ (l05.trans l6)
    repeat' (first | (simp (disch := omega) only [push_cast, ↓reduceIte, zA, zG, zB, zH, zI, zC, zJ, zK, zL, zD, zE, zF, zM, zN, zO, zP, zQ, reduceCtorEq, not_true_eq_false, not_false_eq_true]) | (first | refine iE ?_ ?_ | refine iD ?_ ?_ | refine iQ ?_ ?_ | refine iV ?_ ?_) <;> intro _ | refine And.intro (by omega) ?_ | refine drawn_q ?_ | fail)
    all_goals exact ⟨⟨b, rfl, fun h => hfin hn (hb h)⟩, l05.trans l6⟩
end Go.Proofs.Ytnofalhkapmcnaa
end
section
namespace Go.Proofs.Ytnofalhkapmcnaa
open Go.Vc
set_option maxRecDepth 100000
variable (Q : Post) (ds : List Deferred) (σ : Env) (w : World)
/-! 3 columbary/columbarylaw26.SelectorTells (params #[34, 42], results #[(.tmp 4)], 130 slots) -/
def W3_0 : List Nat := [4, 7, 8, 9, 37, 38, 39, 40, 41, 42, 43, 44, 45, 46, 47, 48, 49, 50, 51, 52, 53, 54, 55, 56, 57, 58, 59, 60, 61, 62, 63, 64, 65, 66, 67, 68, 69, 70, 71, 72, 73, 74, 75, 76, 77, 78, 79, 80, 81, 82, 83, 84, 85]
@[push_cast] theorem W3_0_def : W3_0 = [4, 7, 8, 9, 37, 38, 39, 40, 41, 42, 43, 44, 45, 46, 47, 48, 49, 50, 51, 52, 53, 54, 55, 56, 57, 58, 59, 60, 61, 62, 63, 64, 65, 66, 67, 68, 69, 70, 71, 72, 73, 74, 75, 76, 77, 78, 79, 80, 81, 82, 83, 84, 85] := mk_eq rfl
def W3_1 : List Nat := [4, 8, 9, 43, 44, 45, 46, 47, 48, 49, 50, 51, 52, 53, 54, 55, 56, 57, 58, 59, 60, 61, 62, 63, 64, 65, 66, 67, 68, 69, 70, 71, 72, 73, 74, 75, 76, 77, 78, 79, 80, 81, 82, 83, 84, 85]
@[push_cast] theorem W3_1_def : W3_1 = [4, 8, 9, 43, 44, 45, 46, 47, 48, 49, 50, 51, 52, 53, 54, 55, 56, 57, 58, 59, 60, 61, 62, 63, 64, 65, 66, 67, 68, 69, 70, 71, 72, 73, 74, 75, 76, 77, 78, 79, 80, 81, 82, 83, 84, 85] := mk_eq rfl
def r3_0 : List VOp :=
  [⟨some 2, .box 34 (.tmp 0), 0, none⟩,
   ⟨some 3, .box 42 (.tmp 1), 0, none⟩,
   ⟨some 4, .assign (.const (.bool false)), 4, none⟩]
def r3_1 : List VOp :=
  [lda 16 34 2,
   lda 17 42 3,
   ⟨some 18, .call ⟨.value (.func 10), #[.tmp 16, .tmp 17], #[34, 42]⟩, 4, none⟩,
   asg 5 18 4]
def r3_2 : List VOp :=
  [mv 19 5 4,
   ⟨some 20, .unOp .not 4 (.tmp 19), 4, none⟩]
def r3_3 : List VOp :=
  [⟨some 21, .call ⟨.value (.func 11), #[], #[]⟩, 4, none⟩,
   asg 4 21 4]
def r3_4 : List VOp :=
  [fad 22 34 2 1,
   lda 23 28 22,
   fad 24 34 2 3,
   lda 25 29 24,
   lda 26 42 3,
   ⟨some 27, .call ⟨.value (.func 12), #[.tmp 23, .tmp 25, .tmp 26], #[28, 29, 42]⟩, 45, none⟩,
   asg 6 27 45]
def r3_5 : List VOp :=
  [fad 28 34 2 1,
   lda 29 28 28,
   fad 30 34 2 3,
   lda 31 29 30,
   lda 32 42 3,
   ⟨some 33, .call ⟨.value (.func 14), #[.tmp 29, .tmp 31, .tmp 32], #[28, 29, 42]⟩, 45, none⟩,
   mv 34 6 45,
   ⟨some 35, .call ⟨.value (.func 13), #[.tmp 33, .tmp 34], #[45, 45]⟩, 4, none⟩,
   ⟨some 36, .unOp .not 4 (.tmp 35), 4, none⟩]
def r3_6 : List VOp :=
  [⟨some 4, .assign (.const (.bool false)), 4, none⟩]
def r3_7 : List VOp :=
  [⟨some 7, .assign (.const (.int .i64 0)), 3, none⟩]
def r3_8 : List VOp :=
  [mv 37 7 3,
   mv 38 6 45,
   ⟨some 39, .call ⟨.builtin .len, #[.tmp 38], #[45]⟩, 3, none⟩,
   ⟨some 40, .binOp .lss 3 (.tmp 37) (.tmp 39) 3, 4, none⟩]
def r3_10 : List VOp :=
  [⟨some 8, .assign (.const (.int .i64 (-1))), 3, none⟩]
def r3_11 : List VOp :=
  [mv 43 8 3,
   fad 44 34 2 1,
   fad 45 28 44 1,
   lda 46 26 45,
   ⟨some 47, .call ⟨.builtin .len, #[.tmp 46], #[26]⟩, 3, none⟩,
   ⟨some 48, .binOp .lss 3 (.tmp 43) (.tmp 47) 3, 4, none⟩]
def r3_13 : List VOp :=
  [mv 51 6 45,
   mv 52 7 3,
   iad 53 45 51 52,
   lda 54 49 53,
   ⟨some 9, .alloc 49, 0, none⟩,
   ⟨none, .store 49 (.tmp 9) (.tmp 54), 0, none⟩]
def r3_14 : List VOp :=
  [mv 55 8 3,
   fad 56 49 9 3,
   ⟨none, .store 3 (.tmp 56) (.tmp 55), 0, none⟩]
def r3_15 : List VOp :=
  [mv 57 8 3,
   ⟨some 58, .binOp .geq 3 (.tmp 57) (.const (.int .i64 0)) 3, 4, none⟩,
   mv 59 58 4,
   ⟨some 60, .fieldAddr 34 (.tmp 2) 1, 0, some (59, true)⟩,
   ⟨some 61, .fieldAddr 28 (.tmp 60) 1, 0, some (59, true)⟩,
   ⟨some 62, .load 26 (.tmp 61), 26, some (59, true)⟩,
   ⟨some 63, .move (.tmp 8), 3, some (59, true)⟩,
   ⟨some 64, .indexAddr 26 (.tmp 62) (.tmp 63), 0, some (59, true)⟩,
   ⟨some 65, .fieldAddr 51 (.tmp 64) 0, 0, some (59, true)⟩,
   ⟨some 66, .load 3 (.tmp 65), 3, some (59, true)⟩,
   ⟨some 67, .fieldAddr 49 (.tmp 9) 2, 0, some (59, true)⟩,
   ⟨some 68, .load 3 (.tmp 67), 3, some (59, true)⟩,
   ⟨some 69, .binOp .neq 3 (.tmp 66) (.tmp 68) 3, 4, some (59, true)⟩,
   ⟨some 70, .pick (.tmp 59) (.tmp 69) (.const (.bool false)), 4, none⟩]
def r3_16 : List VOp :=
  [fad 71 34 2 0,
   lda 72 24 71,
   fad 73 34 2 1,
   lda 74 28 73,
   lda 75 42 3,
   lda 76 49 9,
   ⟨some 77, .call ⟨.value (.func 15), #[.tmp 72, .tmp 74, .tmp 75, .tmp 76], #[24, 28, 42, 49]⟩, 4, none⟩,
   fad 78 34 2 0,
   lda 79 24 78,
   fad 80 34 2 1,
   lda 81 28 80,
   lda 82 42 3,
   lda 83 49 9,
   ⟨some 84, .call ⟨.value (.func 16), #[.tmp 79, .tmp 81, .tmp 82, .tmp 83], #[24, 28, 42, 49]⟩, 4, none⟩,
   ⟨some 85, .binOp .neq 4 (.tmp 77) (.tmp 84) 4, 4, none⟩]
def r3_17 : List VOp :=
  [⟨some 4, .assign (.const (.bool false)), 4, none⟩]
def r3_12 : List VOp :=
  [mv 49 8 3,
   ⟨some 50, .binOp .add 3 (.tmp 49) (.const (.int .i64 1)) 3, 3, none⟩,
   asg 8 50 3]
def r3_9 : List VOp :=
  [mv 41 7 3,
   ⟨some 42, .binOp .add 3 (.tmp 41) (.const (.int .i64 1)) 3, 3, none⟩,
   asg 7 42 3]
def r3_18 : List VOp :=
  [fad 87 34 2 0,
   lda 88 24 87,
   fad 89 34 2 1,
   lda 90 28 89,
   fad 91 34 2 3,
   lda 92 29 91,
   lda 93 42 3,
   fad 94 34 2 5,
   lda 95 32 94,
   ⟨some 96, .call ⟨.value (.func 17), #[.tmp 88, .tmp 90, .tmp 92, .tmp 93, .tmp 95], #[24, 28, 29, 42, 32]⟩, 54, none⟩,
   mv 86 96 54,
   ext 97 86 0 45,
   ext 98 86 1 3,
   ext 99 86 2 53,
   asg 10 97 45,
   asg 11 98 3,
   asg 12 99 53]
def r3_19 : List VOp :=
  [fad 101 34 2 0,
   lda 102 24 101,
   fad 103 34 2 1,
   lda 104 28 103,
   fad 105 34 2 3,
   lda 106 29 105,
   lda 107 42 3,
   fad 108 34 2 5,
   lda 109 32 108,
   ⟨some 110, .call ⟨.value (.func 18), #[.tmp 102, .tmp 104, .tmp 106, .tmp 107, .tmp 109], #[24, 28, 29, 42, 32]⟩, 54, none⟩,
   mv 100 110 54,
   ext 111 100 0 45,
   ext 112 100 1 3,
   ext 113 100 2 53,
   asg 13 111 45,
   asg 14 112 3,
   asg 15 113 53]
def r3_20 : List VOp :=
  [⟨some 114, .call ⟨.value (.func 11), #[], #[]⟩, 4, none⟩,
   mv 115 114 4,
   ⟨some 116, .move (.tmp 10), 45, some (115, true)⟩,
   ⟨some 117, .move (.tmp 13), 45, some (115, true)⟩,
   ⟨some 118, .call ⟨.value (.func 13), #[.tmp 116, .tmp 117], #[45, 45]⟩, 4, some (115, true)⟩,
   ⟨some 119, .pick (.tmp 115) (.tmp 118) (.const (.bool false)), 4, none⟩,
   mv 120 119 4,
   ⟨some 121, .move (.tmp 11), 3, some (120, true)⟩,
   ⟨some 122, .move (.tmp 14), 3, some (120, true)⟩,
   ⟨some 123, .binOp .eql 3 (.tmp 121) (.tmp 122) 3, 4, some (120, true)⟩,
   ⟨some 124, .pick (.tmp 120) (.tmp 123) (.const (.bool false)), 4, none⟩,
   mv 125 124 4,
   ⟨some 126, .move (.tmp 12), 53, some (125, true)⟩,
   ⟨some 127, .move (.tmp 15), 53, some (125, true)⟩,
   ⟨some 128, .binOp .eql 53 (.tmp 126) (.tmp 127) 53, 4, some (125, true)⟩,
   ⟨some 129, .pick (.tmp 125) (.tmp 128) (.const (.bool false)), 4, none⟩,
   asg 4 129 4]
def B3 : VC :=
  (.seq (.region r3_0) (.seq (.region r3_1) (.seq (.seq (.region r3_2) (.cond (.tmp 20) (.seq (.region r3_3) .ret) .skip)) (.seq (.region r3_4) (.seq (.seq (.region r3_5) (.cond (.tmp 36) (.seq (.region r3_6) .ret) .skip)) (.seq (.seq (.region r3_7) (.block 0 (.loop (.seq (.seq (.region r3_8) (.cond (.tmp 40) .skip (.exit 0))) (.seq (.block 1 (.seq (.region r3_10) (.block 2 (.loop (.seq (.seq (.region r3_11) (.cond (.tmp 48) .skip (.exit 2))) (.seq (.block 3 (.seq (.region r3_13) (.seq (.region r3_14) (.seq (.seq (.draw r3_15 3) (.cond (.tmp 70) (.exit 3) .skip)) (.seq (.draw r3_16 3) (.cond (.tmp 85) (.seq (.region r3_17) .ret) .skip)))))) (.region r3_12))))))) (.region r3_9)))))) (.seq (.region r3_18) (.seq (.region r3_19) (.seq (.region r3_20) .ret)))))))))
theorem code3 : ∃ c, Try.f3.body = some c ∧ abs Try.f3.ntmps c = B3 := ⟨_, rfl, by kernel_rfl⟩
theorem hb3 : HasBody Try.prog 3 := hasBody_of Try.func3 (by kernel_rfl)
theorem res3 : Try.f3.results = #[(.tmp 4)] := rfl
theorem enter3 {w : World} {R : Value → World → Prop} (x0 x1 : Value) (h : vc Try.prog B3 (retK Try.prog #[(.tmp 4)] R) [] (initEnv [x0, x1] 0) w) : FnC Try.prog 3 #[x0, x1] w R := by
  obtain ⟨c, h1, h2⟩ := code3
  exact hb3.fn (ret_of_vc mixed Try.func3 h1 (Nat.le_of_ble_eq_true rfl) B3 h2 h)
@[push_cast] theorem vr3_0 : VR r3_0 [⟨some 2, .box 34 (.tmp 0), 0, none⟩, ⟨some 3, .box 42 (.tmp 1), 0, none⟩, ⟨some 4, .assign (.const (.bool false)), 4, none⟩] := vR rfl
@[push_cast] theorem vr3_1 : VR r3_1 [⟨some 16, .load 34 (.tmp 2), 34, none⟩, ⟨some 17, .load 42 (.tmp 3), 42, none⟩, ⟨some 18, .call ⟨.value (.func 10), #[.tmp 16, .tmp 17], #[34, 42]⟩, 4, none⟩, ⟨some 5, .assign (.tmp 18), 4, none⟩] := vR rfl
@[push_cast] theorem vr3_2 : VR r3_2 [⟨some 19, .move (.tmp 5), 4, none⟩, ⟨some 20, .unOp .not 4 (.tmp 19), 4, none⟩] := vR rfl
@[push_cast] theorem vr3_3 : VR r3_3 [⟨some 21, .call ⟨.value (.func 11), #[], #[]⟩, 4, none⟩, ⟨some 4, .assign (.tmp 21), 4, none⟩] := vR rfl
@[push_cast] theorem vr3_4 : VR r3_4 [⟨some 22, .fieldAddr 34 (.tmp 2) 1, 0, none⟩, ⟨some 23, .load 28 (.tmp 22), 28, none⟩, ⟨some 24, .fieldAddr 34 (.tmp 2) 3, 0, none⟩, ⟨some 25, .load 29 (.tmp 24), 29, none⟩, ⟨some 26, .load 42 (.tmp 3), 42, none⟩, ⟨some 27, .call ⟨.value (.func 12), #[.tmp 23, .tmp 25, .tmp 26], #[28, 29, 42]⟩, 45, none⟩, ⟨some 6, .assign (.tmp 27), 45, none⟩] := vR rfl
@[push_cast] theorem vr3_5 : VR r3_5 [⟨some 28, .fieldAddr 34 (.tmp 2) 1, 0, none⟩, ⟨some 29, .load 28 (.tmp 28), 28, none⟩, ⟨some 30, .fieldAddr 34 (.tmp 2) 3, 0, none⟩, ⟨some 31, .load 29 (.tmp 30), 29, none⟩, ⟨some 32, .load 42 (.tmp 3), 42, none⟩, ⟨some 33, .call ⟨.value (.func 14), #[.tmp 29, .tmp 31, .tmp 32], #[28, 29, 42]⟩, 45, none⟩, ⟨some 34, .move (.tmp 6), 45, none⟩, ⟨some 35, .call ⟨.value (.func 13), #[.tmp 33, .tmp 34], #[45, 45]⟩, 4, none⟩, ⟨some 36, .unOp .not 4 (.tmp 35), 4, none⟩] := vR rfl
@[push_cast] theorem vr3_6 : VR r3_6 [⟨some 4, .assign (.const (.bool false)), 4, none⟩] := vR rfl
@[push_cast] theorem vr3_7 : VR r3_7 [⟨some 7, .assign (.const (.int .i64 0)), 3, none⟩] := vR rfl
@[push_cast] theorem vr3_8 : VR r3_8 [⟨some 37, .move (.tmp 7), 3, none⟩, ⟨some 38, .move (.tmp 6), 45, none⟩, ⟨some 39, .call ⟨.builtin .len, #[.tmp 38], #[45]⟩, 3, none⟩, ⟨some 40, .binOp .lss 3 (.tmp 37) (.tmp 39) 3, 4, none⟩] := vR rfl
@[push_cast] theorem vr3_10 : VR r3_10 [⟨some 8, .assign (.const (.int .i64 (-1))), 3, none⟩] := vR rfl
@[push_cast] theorem vr3_11 : VR r3_11 [⟨some 43, .move (.tmp 8), 3, none⟩, ⟨some 44, .fieldAddr 34 (.tmp 2) 1, 0, none⟩, ⟨some 45, .fieldAddr 28 (.tmp 44) 1, 0, none⟩, ⟨some 46, .load 26 (.tmp 45), 26, none⟩, ⟨some 47, .call ⟨.builtin .len, #[.tmp 46], #[26]⟩, 3, none⟩, ⟨some 48, .binOp .lss 3 (.tmp 43) (.tmp 47) 3, 4, none⟩] := vR rfl
@[push_cast] theorem vr3_13 : VR r3_13 [⟨some 51, .move (.tmp 6), 45, none⟩, ⟨some 52, .move (.tmp 7), 3, none⟩, ⟨some 53, .indexAddr 45 (.tmp 51) (.tmp 52), 0, none⟩, ⟨some 54, .load 49 (.tmp 53), 49, none⟩, ⟨some 9, .alloc 49, 0, none⟩, ⟨none, .store 49 (.tmp 9) (.tmp 54), 0, none⟩] := vR rfl
@[push_cast] theorem vr3_14 : VR r3_14 [⟨some 55, .move (.tmp 8), 3, none⟩, ⟨some 56, .fieldAddr 49 (.tmp 9) 3, 0, none⟩, ⟨none, .store 3 (.tmp 56) (.tmp 55), 0, none⟩] := vR rfl
@[push_cast] theorem vr3_15 : vc Try.prog (.draw r3_15 3) Q ds σ w = drawn Try.prog [(⟨some 57, .move (.tmp 8), 3, none⟩, [8]), (⟨some 58, .binOp .geq 3 (.tmp 57) (.const (.int .i64 0)) 3, 4, none⟩, [57]), (⟨some 59, .move (.tmp 58), 4, none⟩, [58]), (⟨some 60, .fieldAddr 34 (.tmp 2) 1, 0, some (59, true)⟩, [2, 59]), (⟨some 61, .fieldAddr 28 (.tmp 60) 1, 0, some (59, true)⟩, [60, 59]), (⟨some 62, .load 26 (.tmp 61), 26, some (59, true)⟩, [61, 59]), (⟨some 63, .move (.tmp 8), 3, some (59, true)⟩, [8, 59]), (⟨some 64, .indexAddr 26 (.tmp 62) (.tmp 63), 0, some (59, true)⟩, [62, 63, 59]), (⟨some 65, .fieldAddr 51 (.tmp 64) 0, 0, some (59, true)⟩, [64, 59]), (⟨some 66, .load 3 (.tmp 65), 3, some (59, true)⟩, [65, 59]), (⟨some 67, .fieldAddr 49 (.tmp 9) 2, 0, some (59, true)⟩, [9, 59]), (⟨some 68, .load 3 (.tmp 67), 3, some (59, true)⟩, [67, 59]), (⟨some 69, .binOp .neq 3 (.tmp 66) (.tmp 68) 3, 4, some (59, true)⟩, [66, 68, 59]), (⟨some 70, .pick (.tmp 59) (.tmp 69) (.const (.bool false)), 4, none⟩, [59, 69])] 3 (Q .normal ds) σ w := mk_eq rfl
@[push_cast] theorem vr3_16 : vc Try.prog (.draw r3_16 3) Q ds σ w = drawn Try.prog [(⟨some 71, .fieldAddr 34 (.tmp 2) 0, 0, none⟩, [2]), (⟨some 72, .load 24 (.tmp 71), 24, none⟩, [71]), (⟨some 73, .fieldAddr 34 (.tmp 2) 1, 0, none⟩, [2]), (⟨some 74, .load 28 (.tmp 73), 28, none⟩, [73]), (⟨some 75, .load 42 (.tmp 3), 42, none⟩, [3]), (⟨some 76, .load 49 (.tmp 9), 49, none⟩, [9]), (⟨some 77, .call ⟨.value (.func 15), #[.tmp 72, .tmp 74, .tmp 75, .tmp 76], #[24, 28, 42, 49]⟩, 4, none⟩, [72, 74, 75, 76]), (⟨some 78, .fieldAddr 34 (.tmp 2) 0, 0, none⟩, [2]), (⟨some 79, .load 24 (.tmp 78), 24, none⟩, [78]), (⟨some 80, .fieldAddr 34 (.tmp 2) 1, 0, none⟩, [2]), (⟨some 81, .load 28 (.tmp 80), 28, none⟩, [80]), (⟨some 82, .load 42 (.tmp 3), 42, none⟩, [3]), (⟨some 83, .load 49 (.tmp 9), 49, none⟩, [9]), (⟨some 84, .call ⟨.value (.func 16), #[.tmp 79, .tmp 81, .tmp 82, .tmp 83], #[24, 28, 42, 49]⟩, 4, none⟩, [79, 81, 82, 83]), (⟨some 85, .binOp .neq 4 (.tmp 77) (.tmp 84) 4, 4, none⟩, [77, 84])] 3 (Q .normal ds) σ w := mk_eq rfl
@[push_cast] theorem vr3_17 : VR r3_17 [⟨some 4, .assign (.const (.bool false)), 4, none⟩] := vR rfl
@[push_cast] theorem vr3_12 : VR r3_12 [⟨some 49, .move (.tmp 8), 3, none⟩, ⟨some 50, .binOp .add 3 (.tmp 49) (.const (.int .i64 1)) 3, 3, none⟩, ⟨some 8, .assign (.tmp 50), 3, none⟩] := vR rfl
@[push_cast] theorem vr3_9 : VR r3_9 [⟨some 41, .move (.tmp 7), 3, none⟩, ⟨some 42, .binOp .add 3 (.tmp 41) (.const (.int .i64 1)) 3, 3, none⟩, ⟨some 7, .assign (.tmp 42), 3, none⟩] := vR rfl
@[push_cast] theorem vr3_18 : VR r3_18 [⟨some 87, .fieldAddr 34 (.tmp 2) 0, 0, none⟩, ⟨some 88, .load 24 (.tmp 87), 24, none⟩, ⟨some 89, .fieldAddr 34 (.tmp 2) 1, 0, none⟩, ⟨some 90, .load 28 (.tmp 89), 28, none⟩, ⟨some 91, .fieldAddr 34 (.tmp 2) 3, 0, none⟩, ⟨some 92, .load 29 (.tmp 91), 29, none⟩, ⟨some 93, .load 42 (.tmp 3), 42, none⟩, ⟨some 94, .fieldAddr 34 (.tmp 2) 5, 0, none⟩, ⟨some 95, .load 32 (.tmp 94), 32, none⟩, ⟨some 96, .call ⟨.value (.func 17), #[.tmp 88, .tmp 90, .tmp 92, .tmp 93, .tmp 95], #[24, 28, 29, 42, 32]⟩, 54, none⟩, ⟨some 86, .move (.tmp 96), 54, none⟩, ⟨some 97, .extract (.tmp 86) 0, 45, none⟩, ⟨some 98, .extract (.tmp 86) 1, 3, none⟩, ⟨some 99, .extract (.tmp 86) 2, 53, none⟩, ⟨some 10, .assign (.tmp 97), 45, none⟩, ⟨some 11, .assign (.tmp 98), 3, none⟩, ⟨some 12, .assign (.tmp 99), 53, none⟩] := vR rfl
@[push_cast] theorem vr3_19 : VR r3_19 [⟨some 101, .fieldAddr 34 (.tmp 2) 0, 0, none⟩, ⟨some 102, .load 24 (.tmp 101), 24, none⟩, ⟨some 103, .fieldAddr 34 (.tmp 2) 1, 0, none⟩, ⟨some 104, .load 28 (.tmp 103), 28, none⟩, ⟨some 105, .fieldAddr 34 (.tmp 2) 3, 0, none⟩, ⟨some 106, .load 29 (.tmp 105), 29, none⟩, ⟨some 107, .load 42 (.tmp 3), 42, none⟩, ⟨some 108, .fieldAddr 34 (.tmp 2) 5, 0, none⟩, ⟨some 109, .load 32 (.tmp 108), 32, none⟩, ⟨some 110, .call ⟨.value (.func 18), #[.tmp 102, .tmp 104, .tmp 106, .tmp 107, .tmp 109], #[24, 28, 29, 42, 32]⟩, 54, none⟩, ⟨some 100, .move (.tmp 110), 54, none⟩, ⟨some 111, .extract (.tmp 100) 0, 45, none⟩, ⟨some 112, .extract (.tmp 100) 1, 3, none⟩, ⟨some 113, .extract (.tmp 100) 2, 53, none⟩, ⟨some 13, .assign (.tmp 111), 45, none⟩, ⟨some 14, .assign (.tmp 112), 3, none⟩, ⟨some 15, .assign (.tmp 113), 53, none⟩] := vR rfl
@[push_cast] theorem vr3_20 : VR r3_20 [⟨some 114, .call ⟨.value (.func 11), #[], #[]⟩, 4, none⟩, ⟨some 115, .move (.tmp 114), 4, none⟩, ⟨some 116, .move (.tmp 10), 45, some (115, true)⟩, ⟨some 117, .move (.tmp 13), 45, some (115, true)⟩, ⟨some 118, .call ⟨.value (.func 13), #[.tmp 116, .tmp 117], #[45, 45]⟩, 4, some (115, true)⟩, ⟨some 119, .pick (.tmp 115) (.tmp 118) (.const (.bool false)), 4, none⟩, ⟨some 120, .move (.tmp 119), 4, none⟩, ⟨some 121, .move (.tmp 11), 3, some (120, true)⟩, ⟨some 122, .move (.tmp 14), 3, some (120, true)⟩, ⟨some 123, .binOp .eql 3 (.tmp 121) (.tmp 122) 3, 4, some (120, true)⟩, ⟨some 124, .pick (.tmp 120) (.tmp 123) (.const (.bool false)), 4, none⟩, ⟨some 125, .move (.tmp 124), 4, none⟩, ⟨some 126, .move (.tmp 12), 53, some (125, true)⟩, ⟨some 127, .move (.tmp 15), 53, some (125, true)⟩, ⟨some 128, .binOp .eql 53 (.tmp 126) (.tmp 127) 53, 4, some (125, true)⟩, ⟨some 129, .pick (.tmp 125) (.tmp 128) (.const (.bool false)), 4, none⟩, ⟨some 4, .assign (.tmp 129), 4, none⟩] := vR rfl
@[push_cast] theorem bsl35_1_Codes7L {K : Value → World → Prop} {w : World} (x00 x01 : Value) : vBuildSlice Try.prog 35 1 #[(0, (.agg #[x00, x01]))] K w = K (.slice (some ⟨w.heap.size, 0, none⟩) 1 1) (w.alloc (.cells #[x00, x01] 63)) :=
  vBuildSlice_ok Try.underlying35 ti63 (by kernel_rfl) (by decide)
@[push_cast] theorem bld42_0_1_3_Codes7L {K : Value → World → Prop} {w : World} (x0o : Option Addr) (x0n x0c : Nat) (x1 : Int) (x3 : Int) : vBuild Try.prog 42 #[(0, (.slice x0o x0n x0c)), (1, (.int .i64 x1)), (3, (.int .i64 x3))] K w = K (.agg #[(.slice x0o x0n x0c), (.int .i64 x1), (.int .i64 0), (.int .i64 x3), (.slice none 0 0), (.int .i64 0), (.string ⟨#[]⟩), (.string ⟨#[]⟩), (.slice none 0 0), (.slice none 0 0), (.int .i64 0), (.int .i64 0)]) w :=
  vBuild_ok (by kernel_rfl)
@[push_cast] theorem bld63__Codes7L {K : Value → World → Prop} {w : World}  : vBuild Try.prog 63 #[] K w = K (.agg #[(.int .i64 0), (.string ⟨#[]⟩)]) w :=
  vBuild_ok (by kernel_rfl)
end Go.Proofs.Ytnofalhkapmcnaa
end
section
set_option linter.unusedSimpArgs false
namespace Go.Proofs.Ytnofalhkapmcnaa
open Go.Vc Go.Key Go.Bkt
set_option maxRecDepth 100000
structure Ft26 (m : MD) (q : QD) : Prop where
  a : f20 m = true
  b : f23 m.dl m.ml q = true
  r : RgOk m
  c : ckQ m.dl m.ml q = 0
theorem ckQ_ok {d m : List ByteArray} {q : QD} (h : ckQ d m q = 0) : shOk q = true ∧ nsOk d m q = true ∧ tpOk q = true := by
  unfold ckQ at h
  cases h1 : shOk q with
  | false => rw [h1, if_pos rfl] at h; cases h
  | true =>
    rw [h1, if_neg (by simp)] at h
    cases h2 : nsOk d m q with
    | false => rw [h2, if_pos rfl] at h; cases h
    | true =>
      rw [h2, if_neg (by simp)] at h
      cases h3 : tpOk q with
      | false => rw [h3, if_pos rfl] at h; cases h
      | true => exact ⟨rfl, rfl, rfl⟩
theorem f23_in {d m : List ByteArray} {q : QD} (h : f23 d m q = true) : q.wh.cnt ≤ 300 ∧ q.bl.length ≤ 20 ∧ d.length ≤ 20 := by
  unfold f23 at h
  simp only [Bool.and_eq_true, decide_eq_true_eq] at h
  obtain ⟨⟨⟨⟨⟨⟨⟨h1, h2⟩, h3⟩, h4⟩, h5⟩, h6⟩, h7⟩, h8⟩ := h
  have := FT.cnt_prt q.wh 300 h6
  exact ⟨by omega, h3.1, h1.1⟩
theorem Ft26.qin {m : MD} {q : QD} (h : Ft26 m q) : QIn m.dl q ∧ 0 ≤ q.fr ∧ q.fr < q.to ∧ q.to ≤ 1099511627776 := by
  obtain ⟨h1, h2, h3⟩ := f23_in h.b
  obtain ⟨_, _, hc⟩ := ckQ_ok h.c
  unfold tpOk at hc
  simp only [Bool.and_eq_true, decide_eq_true_eq] at hc
  obtain ⟨⟨⟨_, _⟩, he⟩, hn⟩ := hc
  refine ⟨⟨by omega, by omega, by omega, ?_⟩, ?_⟩
  · unfold evOk at he
    simp only [Bool.or_eq_true, decide_eq_true_eq] at he
    rcases he with he | he
    · exact .inl he
    · right
      unfold grOk at he
      unfold Rt
      simp only [Bool.and_eq_true, decide_eq_true_eq] at he
      omega
  · unfold tyNum at hn
    omega
set_option maxHeartbeats 1000000 in
theorem fits26_c (m : MD) (q : QD) (w : World) (hm : m.Ok w) (hq : q.Ok w) (hd : m.dl.length ≤ 2000000) (hml : m.ml.length ≤ 2000000) : FnC Try.prog 10 #[.agg (mdC m).toArray, .agg (qdC q).toArray] w fun v w' => (∃ b : Bool, v = .bool b ∧ (b = true → Ft26 m q)) ∧ Later w w' := by
  have fail : ∀ (w' : World), Later w w' → (∃ b : Bool, Value.bool false = .bool b ∧ (b = true → Ft26 m q)) ∧ Later w w' := fun w' hl => ⟨⟨false, rfl, fun h => by cases h⟩, hl⟩
  refine enter10 _ _ ?_
  unfold B10
  have eca : (Value.agg (mdC m).toArray).cells = (mdC m).toArray := rfl
  have ecb : (Value.agg (qdC q).toArray).cells = (qdC q).toArray := rfl
  obtain ⟨k0, hk0⟩ : ∃ k0, k0 = w.heap.size := ⟨_, rfl⟩
  have la := later_alloc w (.cells (mdC m).toArray 34)
  have Ba := Blk.new w (mdC m).toArray 34
  have sa : (w.alloc (.cells (mdC m).toArray 34)).heap.size = k0 + 1 := by rw [World.size_alloc, hk0]
  rw [← hk0] at Ba
  generalize hwa : w.alloc (.cells (mdC m).toArray 34) = wa at *
  have lb := later_alloc wa (.cells (qdC q).toArray 42)
  have Bb := Blk.new wa (qdC q).toArray 42
  rw [sa] at Bb
  generalize hwb : wa.alloc (.cells (qdC q).toArray 42) = w1 at *
  repeat' (first | (simp (disch := omega) only [push_cast, ↓reduceIte, zA, zG, zB, zH, zI, zC, zJ, zK, zL, zD, zE, zF, zM, zN, zO, zP, zQ, reduceCtorEq, not_true_eq_false, not_false_eq_true, eca, ecb, hwa, sa, hwb, ← hk0]) | (first | refine iE ?_ ?_ | refine iD ?_ ?_ | refine iQ ?_ ?_ | refine iV ?_ ?_) <;> intro _ | refine And.intro (by omega) ?_ | fail)
  have l01 := la.trans lb
  have FF : ∀ w', Later w1 w' → cellsAt w' ⟨k0, 0, none⟩ 12 = some (mdC m) ∧ cellsAt w' ⟨k0 + 1, 0, none⟩ 12 = some (qdC q) ∧ cellsAt w' ⟨k0, 0, none⟩ 2 = some [m.dv, m.mv] := by
    intro w' hl
    have B := mdLater Ba (lb.trans hl)
    refine ⟨Blk.cellsAt (l := mdC m) B, Blk.cellsAt (l := qdC q) (qdLater Bb hl), ?_⟩
    refine cellsAt_of 2 _ _ rfl fun i x hx => ?_
    rw [addr_add_eq]
    match i, hx with
    | 0, hx => cases hx; exact B.cell 0
    | 1, hx => cases hx; exact B.cell 1
    | n + 2, hx => exact absurd hx (by simp)
  have hsc : ∀ w', Later w w' → ScIs w' m.dv m.mv m.dl m.ml := fun w' hl => ⟨Sl.later hm.dv hl, Sl.later hm.mv hl, bz_le hm.dl, bz_le hm.ml⟩
  clear hwa hwb sa la lb Ba Bb
  obtain ⟨f1, f2, f3⟩ := FF w1 (Later.refl _)
  repeat' (first | (simp (disch := omega) only [push_cast, ↓reduceIte, zA, zG, zB, zH, zI, zC, zJ, zK, zL, zD, zE, zF, zM, zN, zO, zP, zQ, reduceCtorEq, not_true_eq_false, not_false_eq_true, f1]) | (first | refine iE ?_ ?_ | refine iD ?_ ?_ | refine iQ ?_ ?_ | refine iV ?_ ?_) <;> intro _ | refine And.intro (by omega) ?_ | fail)
  refine (fits20_c m w1 (hm.later l01)).mono ?_
  rintro _ w2 ⟨rfl, l2⟩
  have l02 := l01.trans l2
  obtain ⟨f1, f2, f3⟩ := FF w2 l2
  repeat' (first | (simp (disch := omega) only [push_cast, ↓reduceIte, zA, zG, zB, zH, zI, zC, zJ, zK, zL, zD, zE, zF, zM, zN, zO, zP, zQ, reduceCtorEq, not_true_eq_false, not_false_eq_true, f2, f3, addr_add_eq, Nat.zero_add]) | (first | refine iE ?_ ?_ | refine iD ?_ ?_ | refine iQ ?_ ?_ | refine iV ?_ ?_) <;> intro _ | refine And.intro (by omega) ?_ | fail)
  refine (fits23_c m.dv m.mv m.dl m.ml q w2 (hsc w2 l02) (hq.later l02)).mono ?_
  rintro _ w3 ⟨rfl, l3⟩
  have l03 := l02.trans l3
  obtain ⟨f1, f2, f3⟩ := FF w3 (l2.trans l3)
  repeat' (first | (simp (disch := omega) only [push_cast, ↓reduceIte, zA, zG, zB, zH, zI, zC, zJ, zK, zL, zD, zE, zF, zM, zN, zO, zP, zQ, reduceCtorEq, not_true_eq_false, not_false_eq_true, f1]) | (first | refine iE ?_ ?_ | refine iD ?_ ?_ | refine iQ ?_ ?_ | refine iV ?_ ?_) <;> intro _ | refine And.intro (by omega) ?_ | fail)
  refine (right20_c m w3 (hm.later l03) hd hml).mono ?_
  rintro _ w4 ⟨⟨b, rfl, hb⟩, l4⟩
  have l04 := l03.trans l4
  cases hA : f20 m with
  | false =>
    repeat' (first | (simp (disch := omega) only [push_cast, ↓reduceIte, zA, zG, zB, zH, zI, zC, zJ, zK, zL, zD, zE, zF, zM, zN, zO, zP, zQ, reduceCtorEq, not_true_eq_false, not_false_eq_true]) | (first | refine iE ?_ ?_ | refine iD ?_ ?_ | refine iQ ?_ ?_ | refine iV ?_ ?_) <;> intro _ | refine And.intro (by omega) ?_ | refine drawn_q ?_ | fail)
    exact fail _ l04
  | true =>
  cases hB : f23 m.dl m.ml q with
  | false =>
    repeat' (first | (simp (disch := omega) only [push_cast, ↓reduceIte, zA, zG, zB, zH, zI, zC, zJ, zK, zL, zD, zE, zF, zM, zN, zO, zP, zQ, reduceCtorEq, not_true_eq_false, not_false_eq_true]) | (first | refine iE ?_ ?_ | refine iD ?_ ?_ | refine iQ ?_ ?_ | refine iV ?_ ?_) <;> intro _ | refine And.intro (by omega) ?_ | refine drawn_q ?_ | fail)
    exact fail _ l04
  | true =>
  cases b with
  | false =>
    repeat' (first | (simp (disch := omega) only [push_cast, ↓reduceIte, zA, zG, zB, zH, zI, zC, zJ, zK, zL, zD, zE, zF, zM, zN, zO, zP, zQ, reduceCtorEq, not_true_eq_false, not_false_eq_true]) | (first | refine iE ?_ ?_ | refine iD ?_ ?_ | refine iQ ?_ ?_ | refine iV ?_ ?_) <;> intro _ | refine And.intro (by omega) ?_ | refine drawn_q ?_ | fail)
    exact fail _ l04
  | true =>
  obtain ⟨h1, h2, h3⟩ := f23_in hB
  obtain ⟨f1, f2, f3⟩ := FF w4 (l2.trans (l3.trans l4))
  repeat' (first | (simp (disch := omega) only [push_cast, ↓reduceIte, zA, zG, zB, zH, zI, zC, zJ, zK, zL, zD, zE, zF, zM, zN, zO, zP, zQ, reduceCtorEq, not_true_eq_false, not_false_eq_true, f2, f3, addr_add_eq, Nat.zero_add]) | (first | refine iE ?_ ?_ | refine iD ?_ ?_ | refine iQ ?_ ?_ | refine iV ?_ ?_) <;> intro _ | refine And.intro (by omega) ?_ | fail)
  refine (check_c m.dv m.mv m.dl m.ml q w4 (hsc w4 l04) (hq.later l04) (by omega) (by omega)).mono ?_
  rintro _ w5 ⟨rfl, l5⟩
  have l05 := l04.trans l5
  by_cases hC : ckQ m.dl m.ml q = 0
  · have d := decide_eq_true hC
    repeat' (first | (simp (disch := omega) only [push_cast, ↓reduceIte, zA, zG, zB, zH, zI, zC, zJ, zK, zL, zD, zE, zF, zM, zN, zO, zP, zQ, reduceCtorEq, not_true_eq_false, not_false_eq_true, d]) | (first | refine iE ?_ ?_ | refine iD ?_ ?_ | refine iQ ?_ ?_ | refine iV ?_ ?_) <;> intro _ | refine And.intro (by omega) ?_ | refine drawn_q ?_ | fail)
    all_goals exact ⟨⟨true, rfl, fun _ => ⟨hA, hB, hb rfl, hC⟩⟩, l05⟩
  · have d := decide_eq_false hC
    repeat' (first | (simp (disch := omega) only [push_cast, ↓reduceIte, zA, zG, zB, zH, zI, zC, zJ, zK, zL, zD, zE, zF, zM, zN, zO, zP, zQ, reduceCtorEq, not_true_eq_false, not_false_eq_true, d]) | (first | refine iE ?_ ?_ | refine iD ?_ ?_ | refine iQ ?_ ?_ | refine iV ?_ ?_) <;> intro _ | refine And.intro (by omega) ?_ | refine drawn_q ?_ | fail)
    all_goals exact fail _ l05
end Go.Proofs.Ytnofalhkapmcnaa
end
section
set_option linter.unusedSimpArgs false
namespace Go.Proofs.Ytnofalhkapmcnaa
open Go.Vc Go.Key Go.Bkt
set_option maxRecDepth 100000
def tA : ByteArray := ⟨#[97]⟩
def tB : ByteArray := ⟨#[98]⟩
theorem iq (n : Int) (h : -1000 ≤ n ∧ n ≤ 1000 := by decide) : I64 n := by unfold I64; omega
theorem elq : ∀ n ∈ ([40, 0] : List Int), I64 n := by
  intro n hn
  simp only [List.mem_cons, List.not_mem_nil, or_false] at hn
  rcases hn with rfl | rfl
  · exact iq 40
  · exact iq 0
/-- The manifest of two tiers, and a projection. -/
structure StoreD (w : World) (m : MD) : Prop where
  ok : m.Ok w
  dl : m.dl = [tA, tB]
  ml : m.ml = []
  tl : ∃ d1 d2, m.p.tl = [⟨0, 1, d1, [tA, tB]⟩, ⟨20, 10, d2, [tA]⟩]
  pl : ∃ d3, m.p.pl = [⟨0, 5, d3, []⟩]
  el : m.el = [40, 0]
  fl : m.fl = [⟨⟨#[115]⟩, 0, -1, 9⟩, ⟨⟨#[116]⟩, 0, 0, 4⟩]
set_option maxHeartbeats 2000000 in
theorem store_c (w : World) : FnC Try.prog 34 #[] w fun v w' => (∃ m : MD, v = .agg (mdC m).toArray ∧ StoreD w' m) ∧ Later w w' := by
  refine enter34 ?_
  unfold B34
  repeat' (first | (simp (disch := omega) only [push_cast, ↓reduceIte, zA, zG, zB, zH, zI, zC, zJ, zK, zL, zD, zE, zF, zM, zN, zO, zP, zQ, reduceCtorEq, not_true_eq_false, not_false_eq_true]) | (first | refine iE ?_ ?_ | refine iD ?_ ?_ | refine iQ ?_ ?_ | refine iV ?_ ?_) <;> intro _ | refine And.intro (by omega) ?_ | fail)
  refine vStore_new rfl rfl (by intro u hu; simp at hu; rcases hu with rfl | rfl <;> rfl) ?_
  have la := later_alloc w (.cells #[.slice none 0 0, .slice none 0 0, .slice none 0 0, .slice none 0 0, .int .i64 0, .int .i64 0, .slice none 0 0, .int .i64 0, .slice none 0 0, .slice none 0 0, .string ⟨#[]⟩, .int .i64 0] 34)
  have Ba := Blk.new w #[.slice none 0 0, .slice none 0 0, .slice none 0 0, .slice none 0 0, .int .i64 0, .int .i64 0, .slice none 0 0, .int .i64 0, .slice none 0 0, .slice none 0 0, .string ⟨#[]⟩, .int .i64 0] 34
  have sa : (w.alloc (.cells #[.slice none 0 0, .slice none 0 0, .slice none 0 0, .slice none 0 0, .int .i64 0, .int .i64 0, .slice none 0 0, .int .i64 0, .slice none 0 0, .slice none 0 0, .string ⟨#[]⟩, .int .i64 0] 34)).heap.size = w.heap.size + 1 := World.size_alloc _ _
  generalize w.alloc (.cells #[.slice none 0 0, .slice none 0 0, .slice none 0 0, .slice none 0 0, .int .i64 0, .int .i64 0, .slice none 0 0, .int .i64 0, .slice none 0 0, .slice none 0 0, .string ⟨#[]⟩, .int .i64 0] 34) = wa at *
  generalize hk0 : w.heap.size = k0 at *
  have lb := later_alloc wa (.cells #[.string ⟨#[97]⟩, .string ⟨#[98]⟩] 9)
  have zlb := lb.size
  have Sb : StS (wa.alloc (.cells #[.string ⟨#[97]⟩, .string ⟨#[98]⟩] 9)) (.slice (some ⟨wa.heap.size, 0, none⟩) 2 2) [tA, tB] := Sl.lit wa [.string ⟨#[97]⟩, .string ⟨#[98]⟩] 9 (by unfold maxLen; simp)
  generalize wa.alloc (.cells #[.string ⟨#[97]⟩, .string ⟨#[98]⟩] 9) = wb at *
  have gkb : k0 < wa.heap.size := by omega
  generalize wa.heap.size = kb at *
  have lc := later_alloc wb (.cells #[.slice (some ⟨kb, 0, none⟩) 2 2, .slice none 0 0] 24)
  have zlc := lc.size
  have Bc := Blk.new wb #[.slice (some ⟨kb, 0, none⟩) 2 2, .slice none 0 0] 24
  generalize wb.alloc (.cells #[.slice (some ⟨kb, 0, none⟩) 2 2, .slice none 0 0] 24) = wc at *
  have gkc : k0 < wb.heap.size := by omega
  generalize wb.heap.size = kc at *
  have ld := later_alloc wc (.cells #[.string ⟨#[97]⟩, .string ⟨#[98]⟩] 9)
  have zld := ld.size
  have Sd : StS (wc.alloc (.cells #[.string ⟨#[97]⟩, .string ⟨#[98]⟩] 9)) (.slice (some ⟨wc.heap.size, 0, none⟩) 2 2) [tA, tB] := Sl.lit wc [.string ⟨#[97]⟩, .string ⟨#[98]⟩] 9 (by unfold maxLen; simp)
  repeat' (first | (simp (disch := omega) only [push_cast, ↓reduceIte, zA, zG, zB, zH, zI, zC, zJ, zK, zL, zD, zE, zF, zM, zN, zO, zP, zQ, reduceCtorEq, not_true_eq_false, not_false_eq_true]) | (first | refine iE ?_ ?_ | refine iD ?_ ?_ | refine iQ ?_ ?_ | refine iV ?_ ?_) <;> intro _ | refine And.intro (by omega) ?_ | fail)
  generalize wc.alloc (.cells #[.string ⟨#[97]⟩, .string ⟨#[98]⟩] 9) = wd at *
  have gkd : k0 < wc.heap.size := by omega
  generalize wc.heap.size = kd at *
  have le := later_alloc wd (.cells #[.string ⟨#[97]⟩] 9)
  have zle := le.size
  have Se : StS (wd.alloc (.cells #[.string ⟨#[97]⟩] 9)) (.slice (some ⟨wd.heap.size, 0, none⟩) 1 1) [tA] := Sl.lit wd [.string ⟨#[97]⟩] 9 (by unfold maxLen; simp)
  generalize wd.alloc (.cells #[.string ⟨#[97]⟩] 9) = we at *
  have gke : k0 < wd.heap.size := by omega
  generalize wd.heap.size = ke at *
  refine vStore_new rfl rfl (by intro u hu; simp at hu; rcases hu with rfl | rfl | rfl <;> rfl) ?_
  have lf := later_alloc we (.cells #[.int .i64 0, .int .i64 1, .slice (some ⟨kd, 0, none⟩) 2 2, .int .i64 20, .int .i64 10, .slice (some ⟨ke, 0, none⟩) 1 1] 60)
  have zlf := lf.size
  have Sf : RecS cdC 3 (we.alloc (.cells #[.int .i64 0, .int .i64 1, .slice (some ⟨kd, 0, none⟩) 2 2, .int .i64 20, .int .i64 10, .slice (some ⟨ke, 0, none⟩) 1 1] 60)) (.slice (some ⟨we.heap.size, 0, none⟩) 2 2) [⟨0, 1, .slice (some ⟨kd, 0, none⟩) 2 2, [tA, tB]⟩, ⟨20, 10, .slice (some ⟨ke, 0, none⟩) 1 1, [tA]⟩] :=
    SlN.lit we [.int .i64 0, .int .i64 1, .slice (some ⟨kd, 0, none⟩) 2 2, .int .i64 20, .int .i64 10, .slice (some ⟨ke, 0, none⟩) 1 1] _ 3 2 rfl (by unfold maxLen; omega)
  generalize we.alloc (.cells #[.int .i64 0, .int .i64 1, .slice (some ⟨kd, 0, none⟩) 2 2, .int .i64 20, .int .i64 10, .slice (some ⟨ke, 0, none⟩) 1 1] 60) = wf at *
  have gkf : k0 < we.heap.size := by omega
  generalize we.heap.size = kf at *
  have lg := later_alloc wf (.cells #[.int .i64 0, .int .i64 5, .slice none 0 0] 51)
  have zlg := lg.size
  have Sg : RecS cdC 3 (wf.alloc (.cells #[.int .i64 0, .int .i64 5, .slice none 0 0] 51)) (.slice (some ⟨wf.heap.size, 0, none⟩) 1 1) [⟨0, 5, .slice none 0 0, []⟩] :=
    SlN.lit wf [.int .i64 0, .int .i64 5, .slice none 0 0] _ 3 1 rfl (by unfold maxLen; omega)
  generalize wf.alloc (.cells #[.int .i64 0, .int .i64 5, .slice none 0 0] 51) = wg at *
  have gkg : k0 < wf.heap.size := by omega
  generalize wf.heap.size = kg at *
  have lh := later_alloc wg (.cells #[.slice (some ⟨kf, 0, none⟩) 2 2, .slice (some ⟨kg, 0, none⟩) 1 1, .int .i64 100] 28)
  have zlh := lh.size
  have Bh := Blk.new wg #[.slice (some ⟨kf, 0, none⟩) 2 2, .slice (some ⟨kg, 0, none⟩) 1 1, .int .i64 100] 28
  generalize wg.alloc (.cells #[.slice (some ⟨kf, 0, none⟩) 2 2, .slice (some ⟨kg, 0, none⟩) 1 1, .int .i64 100] 28) = wh at *
  have gkh : k0 < wg.heap.size := by omega
  generalize wg.heap.size = kh at *
  have lch := ld.trans (le.trans (lf.trans (lg.trans lh)))
  have fc : cellsAt wh ⟨kc, 0, none⟩ 2 = some [.slice (some ⟨kb, 0, none⟩) 2 2, .slice none 0 0] := Blk.cellsAt (l := [.slice (some ⟨kb, 0, none⟩) 2 2, .slice none 0 0]) (Bc.chg (Chg.of_later (ks := []) lch) (by simp))
  have fh : cellsAt wh ⟨kh, 0, none⟩ 3 = some [.slice (some ⟨kf, 0, none⟩) 2 2, .slice (some ⟨kg, 0, none⟩) 1 1, .int .i64 100] := Blk.cellsAt (l := [.slice (some ⟨kf, 0, none⟩) 2 2, .slice (some ⟨kg, 0, none⟩) 1 1, .int .i64 100]) Bh
  repeat' (first | (simp (disch := omega) only [push_cast, ↓reduceIte, zA, zG, zB, zH, zI, zC, zJ, zK, zL, zD, zE, zF, zM, zN, zO, zP, zQ, reduceCtorEq, not_true_eq_false, not_false_eq_true, fc, fh]) | (first | refine iE ?_ ?_ | refine iD ?_ ?_ | refine iQ ?_ ?_ | refine iV ?_ ?_) <;> intro _ | refine And.intro (by omega) ?_ | fail)
  have li := later_alloc wh (.cells #[.int .i64 40, .int .i64 0] 3)
  have zli := li.size
  have Si : Sl (wh.alloc (.cells #[.int .i64 40, .int .i64 0] 3)) (.slice (some ⟨wh.heap.size, 0, none⟩) 2 2) (([40, 0] : List Int).map (Value.int .i64)) := Sl.lit wh [.int .i64 40, .int .i64 0] 3 (by unfold maxLen; simp)
  generalize wh.alloc (.cells #[.int .i64 40, .int .i64 0] 3) = wi at *
  have gki : k0 < wh.heap.size := by omega
  generalize wh.heap.size = ki at *
  have lj := later_alloc wi (.cells #[.string ⟨#[115]⟩, .int .i64 0, .int .i64 (-1), .int .i64 9, .string ⟨#[116]⟩, .int .i64 0, .int .i64 0, .int .i64 4] 57)
  have zlj := lj.size
  have Sj : RecS sdC 4 (wi.alloc (.cells #[.string ⟨#[115]⟩, .int .i64 0, .int .i64 (-1), .int .i64 9, .string ⟨#[116]⟩, .int .i64 0, .int .i64 0, .int .i64 4] 57)) (.slice (some ⟨wi.heap.size, 0, none⟩) 2 2) [⟨⟨#[115]⟩, 0, -1, 9⟩, ⟨⟨#[116]⟩, 0, 0, 4⟩] :=
    SlN.lit wi [.string ⟨#[115]⟩, .int .i64 0, .int .i64 (-1), .int .i64 9, .string ⟨#[116]⟩, .int .i64 0, .int .i64 0, .int .i64 4] _ 4 2 rfl (by unfold maxLen; omega)
  generalize wi.alloc (.cells #[.string ⟨#[115]⟩, .int .i64 0, .int .i64 (-1), .int .i64 9, .string ⟨#[116]⟩, .int .i64 0, .int .i64 0, .int .i64 4] 57) = wj at *
  have gkj : k0 < wi.heap.size := by omega
  generalize wi.heap.size = kj at *
  have laj := lb.trans (lc.trans (lch.trans (li.trans lj)))
  have Bj := Ba.chg (Chg.of_later (ks := []) laj) (by simp)
  obtain ⟨m, hm⟩ : ∃ m : MD, m = ⟨.slice (some ⟨kb, 0, none⟩) 2 2, [tA, tB], .slice none 0 0, [], ⟨.slice (some ⟨kf, 0, none⟩) 2 2, [⟨0, 1, .slice (some ⟨kd, 0, none⟩) 2 2, [tA, tB]⟩, ⟨20, 10, .slice (some ⟨ke, 0, none⟩) 1 1, [tA]⟩], .slice (some ⟨kg, 0, none⟩) 1 1, [⟨0, 5, .slice none 0 0, []⟩], 100⟩, 60, .slice (some ⟨ki, 0, none⟩) 2 2, [40, 0], 0, .slice none 0 0, [], .slice (some ⟨kj, 0, none⟩) 2 2, [⟨⟨#[115]⟩, 0, -1, 9⟩, ⟨⟨#[116]⟩, 0, 0, 4⟩], ⟨#[106]⟩, 0⟩ := ⟨_, rfl⟩
  have hmc : mdC m = [.slice (some ⟨kb, 0, none⟩) 2 2, .slice none 0 0, .slice (some ⟨kf, 0, none⟩) 2 2, .slice (some ⟨kg, 0, none⟩) 1 1, .int .i64 100, .int .i64 60, .slice (some ⟨ki, 0, none⟩) 2 2, .int .i64 0, .slice none 0 0, .slice (some ⟨kj, 0, none⟩) 2 2, .string ⟨#[106]⟩, .int .i64 0] := by rw [hm]; rfl
  repeat' (first | (simp (disch := omega) only [push_cast, ↓reduceIte, zA, zG, zB, zH, zI, zC, zJ, zK, zL, zD, zE, zF, zM, zN, zO, zP, zQ, reduceCtorEq, not_true_eq_false, not_false_eq_true]) | (first | refine iE ?_ ?_ | refine iD ?_ ?_ | refine iQ ?_ ?_ | refine iV ?_ ?_) <;> intro _ | refine And.intro (by omega) ?_ | fail)
  refine vStore_blk (l := [.slice none 0 0, .slice none 0 0, .slice none 0 0, .slice none 0 0, .int .i64 0, .int .i64 0, .slice none 0 0, .int .i64 0, .slice none 0 0, .slice none 0 0, .string ⟨#[]⟩, .int .i64 0]) (xs := [.slice (some ⟨kb, 0, none⟩) 2 2, .slice none 0 0, .slice (some ⟨kf, 0, none⟩) 2 2, .slice (some ⟨kg, 0, none⟩) 1 1, .int .i64 100, .int .i64 60, .slice (some ⟨ki, 0, none⟩) 2 2, .int .i64 0, .slice none 0 0, .slice (some ⟨kj, 0, none⟩) 2 2, .string ⟨#[106]⟩, .int .i64 0]) Bj rfl rfl (by intro u hu; simp at hu; rcases hu with rfl | rfl | rfl | rfl | rfl | rfl | rfl | rfl | rfl | rfl | rfl | rfl <;> rfl) ?_
  intro wk Bk ck
  rw [← hmc] at Bk
  have lk : Later w wk := Chg.later (la.trans laj) ck (by intro j hj; rw [List.mem_singleton.1 hj, hk0]; omega)
  repeat' (first | (simp (disch := omega) only [push_cast, ↓reduceIte, zA, zG, zB, zH, zI, zC, zJ, zK, zL, zD, zE, zF, zM, zN, zO, zP, zQ, reduceCtorEq, not_true_eq_false, not_false_eq_true]) | (first | refine iE ?_ ?_ | refine iD ?_ ?_ | refine iQ ?_ ?_ | refine iV ?_ ?_) <;> intro _ | refine And.intro (by omega) ?_ | fail)
  refine resK_cells (s := 12) (by simp (disch := omega) only [push_cast, ↓reduceIte, zA, zG, zB, zH, zI, zC, zJ, zK, zL, zD, zE, zF, zM, zN, zO, zP, zQ, reduceCtorEq, not_true_eq_false, not_false_eq_true]) (by rw [Try.underlying34]; exact sz34) (Blk.cellsAt (l := mdC m) Bk) ?_
  -- what was made before the last store stays
  have cs : ∀ {n : Nat} {v : Value} {xs : List Value} {s : Nat} {k : Nat}, SlN wj s v n xs → inB k v → k ≠ k0 → SlN wk s v n xs := fun h hi hn => SlN.chg h ck (by simpa using hn) hi
  have nb : kb ≠ k0 := by omega
  have nd : kd ≠ k0 := by omega
  have ne' : ke ≠ k0 := by omega
  have nf : kf ≠ k0 := by omega
  have ng : kg ≠ k0 := by omega
  have ni : ki ≠ k0 := by omega
  have nj : kj ≠ k0 := by omega
  have hB : StS wk (.slice (some ⟨kb, 0, none⟩) 2 2) [tA, tB] := cs (Sl.later Sb (lc.trans (lch.trans (li.trans lj)))) (by simp [inB]) nb
  have hD : StS wk (.slice (some ⟨kd, 0, none⟩) 2 2) [tA, tB] := cs (Sl.later Sd (le.trans (lf.trans (lg.trans (lh.trans (li.trans lj)))))) (by simp [inB]) nd
  have hE : StS wk (.slice (some ⟨ke, 0, none⟩) 1 1) [tA] := cs (Sl.later Se (lf.trans (lg.trans (lh.trans (li.trans lj))))) (by simp [inB]) ne'
  have hF : RecS cdC 3 wk (.slice (some ⟨kf, 0, none⟩) 2 2) [⟨0, 1, .slice (some ⟨kd, 0, none⟩) 2 2, [tA, tB]⟩, ⟨20, 10, .slice (some ⟨ke, 0, none⟩) 1 1, [tA]⟩] := cs (RecS.later Sf (lg.trans (lh.trans (li.trans lj)))) (by simp [inB]) nf
  have hG : RecS cdC 3 wk (.slice (some ⟨kg, 0, none⟩) 1 1) [⟨0, 5, .slice none 0 0, []⟩] := cs (RecS.later Sg (lh.trans (li.trans lj))) (by simp [inB]) ng
  have hI : Sl wk (.slice (some ⟨ki, 0, none⟩) 2 2) (([40, 0] : List Int).map (Value.int .i64)) := cs (Sl.later Si lj) (by simp [inB]) ni
  have hJ : RecS sdC 4 wk (.slice (some ⟨kj, 0, none⟩) 2 2) [⟨⟨#[115]⟩, 0, -1, 9⟩, ⟨⟨#[116]⟩, 0, 0, 4⟩] := cs Sj (by simp [inB]) nj
  have small : ∀ s ∈ [tA, tB], s.size ≤ Bz := by intro s hs; simp only [List.mem_cons, List.not_mem_nil, or_false] at hs; rcases hs with rfl | rfl <;> decide
  repeat' (first | (simp (disch := omega) only [push_cast, ↓reduceIte, zA, zG, zB, zH, zI, zC, zJ, zK, zL, zD, zE, zF, zM, zN, zO, zP, zQ, reduceCtorEq, not_true_eq_false, not_false_eq_true]) | (first | refine iE ?_ ?_ | refine iD ?_ ?_ | refine iQ ?_ ?_ | refine iV ?_ ?_) <;> intro _ | refine And.intro (by omega) ?_ | refine drawn_q ?_ | fail)
  refine ⟨⟨m, rfl, ?_⟩, lk⟩
  subst hm
  refine ⟨⟨hB, small, Sl.nil wk, by simp, ⟨hF, ?_, hG, ?_, iq 100⟩, iq 60, hI, elq, iq 0, Sl.nil wk, by simp, hJ, ?_, (show (⟨#[106]⟩ : ByteArray).size ≤ Bz by decide), iq 0⟩, rfl, rfl, ⟨_, _, rfl⟩, ⟨_, rfl⟩, rfl, rfl⟩
  · intro c hc
    simp only [List.mem_cons, List.not_mem_nil, or_false] at hc
    rcases hc with rfl | rfl
    · exact ⟨iq 0, iq 1, hD, small⟩
    · exact ⟨iq 20, iq 10, hE, fun s hs => small s (by rw [List.mem_singleton.1 hs]; simp)⟩
  · intro c hc
    rw [List.mem_singleton.1 hc]
    exact ⟨iq 0, iq 5, Sl.nil wk, by simp⟩
  · intro f hf
    simp only [List.mem_cons, List.not_mem_nil, or_false] at hf
    rcases hf with rfl | rfl
    · exact ⟨(show (⟨#[115]⟩ : ByteArray).size ≤ Bz by decide), iq 0, iq (-1), iq 9⟩
    · exact ⟨(show (⟨#[116]⟩ : ByteArray).size ≤ Bz by decide), iq 0, iq 0, iq 4⟩
end Go.Proofs.Ytnofalhkapmcnaa
end
section
set_option linter.unusedSimpArgs false
namespace Go.Proofs.Ytnofalhkapmcnaa
open Go.Vc Go.Key Go.Bkt
set_option maxRecDepth 100000
theorem mdC_one {m : MD} {w : World} (h : m.Ok w) : ∀ u ∈ mdC m, u.oneCell' = true := by
  obtain ⟨o1, c1, h1⟩ := Sl.slice h.dv
  obtain ⟨o2, c2, h2⟩ := Sl.slice h.mv
  obtain ⟨o3, c3, h3, _⟩ := RecS.slice h.p.tv
  obtain ⟨o4, c4, h4, _⟩ := RecS.slice h.p.pv
  obtain ⟨o5, c5, h5⟩ := Sl.slice h.ev
  obtain ⟨o6, c6, h6⟩ := Sl.slice h.sv
  obtain ⟨o7, c7, h7, _⟩ := RecS.slice h.fv
  intro u hu
  simp only [mdC, List.mem_cons, List.not_mem_nil, or_false] at hu
  rcases hu with rfl | rfl | rfl | rfl | rfl | rfl | rfl | rfl | rfl | rfl | rfl | rfl <;> first | rfl | (rw [h1]; rfl) | (rw [h2]; rfl) | (rw [h3]; rfl) | (rw [h4]; rfl) | (rw [h5]; rfl) | (rw [h6]; rfl) | (rw [h7]; rfl)
def liveQ (tv bv : Value) (bl : List ByteArray) : QD := ⟨tv, [⟨0, ⟨#[]⟩⟩], 20, 60, 10, bv, bl, .mk 0 ⟨#[]⟩ ⟨#[]⟩ (.slice none 0 0) [], .slice none 0 0, [], 0, 0⟩
theorem liveQ_ok {w : World} {tv bv : Value} {bl : List ByteArray} (ht : RecS tdC 2 w tv [⟨0, ⟨#[]⟩⟩]) (hb : StS w bv bl) (hz : ∀ s ∈ bl, s.size ≤ Bz) : (liveQ tv bv bl).Ok w := by
  refine ⟨ht, ?_, iq 20, iq 60, iq 10, hb, hz, FT.ok_iff.2 ⟨iq 0, (show (⟨#[]⟩ : ByteArray).size ≤ 140737488351232 by decide), (show (⟨#[]⟩ : ByteArray).size ≤ 140737488351232 by decide), RecS.nil w, by simp [FT.kids, liveQ]⟩, RecS.nil w, by simp [liveQ], iq 0, iq 0⟩
  intro t ht
  rw [List.mem_singleton.1 ht]
  exact ⟨iq 0, by decide⟩
theorem liveQ_in {tv bv : Value} {bl : List ByteArray} (hb : bl.length ≤ 10) : QIn [tA, tB] (liveQ tv bv bl) := ⟨(show (1 : Nat) ≤ 1000000 by decide), by show bl.length ≤ 1000; omega, by decide, .inr (by show Rt 10; unfold Rt; omega)⟩
theorem live1 (tv pv d1 d2 d3 qv bv : Value) (hz : Int) : chooseR (elB [tA, tB] ⟨tv, [⟨0, 1, d1, [tA, tB]⟩, ⟨20, 10, d2, [tA]⟩], pv, [⟨0, 5, d3, []⟩], hz⟩ (liveQ qv bv [])) (bestS [tA, tB] ⟨tv, [⟨0, 1, d1, [tA, tB]⟩, ⟨20, 10, d2, [tA]⟩], pv, [⟨0, 5, d3, []⟩], hz⟩ (liveQ qv bv []) [⟨⟨#[115]⟩, 0, -1, 9⟩, ⟨⟨#[116]⟩, 0, 0, 4⟩]) (strL 20 60 [40, 0] 2) = ([⟨40, 60, 0, 0, 4⟩, ⟨20, 40, 1, -1, 0⟩], -1, 0) := by kernel_rfl
theorem live2 (tv pv d1 d2 d3 qv bv : Value) (hz : Int) : chooseR (elB [tA, tB] ⟨tv, [⟨0, 1, d1, [tA, tB]⟩, ⟨20, 10, d2, [tA]⟩], pv, [⟨0, 5, d3, []⟩], hz⟩ (liveQ qv bv [tB])) (bestS [tA, tB] ⟨tv, [⟨0, 1, d1, [tA, tB]⟩, ⟨20, 10, d2, [tA]⟩], pv, [⟨0, 5, d3, []⟩], hz⟩ (liveQ qv bv [tB]) [⟨⟨#[115]⟩, 0, -1, 9⟩, ⟨⟨#[116]⟩, 0, 0, 4⟩]) (strL 20 60 [40, 0] 2) = ([], 1, 261) := by kernel_rfl
set_option maxHeartbeats 2000000 in
theorem alive26_c (w : World) : FnC Try.prog 11 #[] w fun v w' => v = .bool true ∧ Later w w' := by
  refine enter11 ?_
  unfold B11
  repeat' (first | (simp (disch := omega) only [push_cast, ↓reduceIte, zA, zG, zB, zH, zI, zC, zJ, zK, zL, zD, zE, zF, zM, zN, zO, zP, zQ, reduceCtorEq, not_true_eq_false, not_false_eq_true]) | (first | refine iE ?_ ?_ | refine iD ?_ ?_ | refine iQ ?_ ?_ | refine iV ?_ ?_) <;> intro _ | refine And.intro (by omega) ?_ | fail)
  refine (store_c w).mono ?_
  rintro _ wa ⟨⟨m, rfl, hS⟩, la⟩
  repeat' (first | (simp (disch := omega) only [push_cast, ↓reduceIte, zA, zG, zB, zH, zI, zC, zJ, zK, zL, zD, zE, zF, zM, zN, zO, zP, zQ, reduceCtorEq, not_true_eq_false, not_false_eq_true]) | (first | refine iE ?_ ?_ | refine iD ?_ ?_ | refine iQ ?_ ?_ | refine iV ?_ ?_) <;> intro _ | refine And.intro (by omega) ?_ | fail)
  refine vStore_new rfl rfl (fun u hu => mdC_one hS.ok u (by simpa using hu)) ?_
  have lb := later_alloc wa (.cells (mdC m).toArray 34)
  have Bb := Blk.new wa (mdC m).toArray 34
  generalize wa.alloc (.cells (mdC m).toArray 34) = wb at *
  generalize wa.heap.size = kb at *
  repeat' (first | (simp (disch := omega) only [push_cast, ↓reduceIte, zA, zG, zB, zH, zI, zC, zJ, zK, zL, zD, zE, zF, zM, zN, zO, zP, zQ, reduceCtorEq, not_true_eq_false, not_false_eq_true]) | (first | refine iE ?_ ?_ | refine iD ?_ ?_ | refine iQ ?_ ?_ | refine iV ?_ ?_) <;> intro _ | refine And.intro (by omega) ?_ | fail)
  have lc := later_alloc wb (.cells #[.int .i64 0, .string ⟨#[]⟩] 63)
  have Sc : RecS tdC 2 (wb.alloc (.cells #[.int .i64 0, .string ⟨#[]⟩] 63)) (.slice (some ⟨wb.heap.size, 0, none⟩) 1 1) [⟨0, ⟨#[]⟩⟩] := SlN.lit wb [.int .i64 0, .string ⟨#[]⟩] _ 2 1 rfl (by unfold maxLen; omega)
  generalize wb.alloc (.cells #[.int .i64 0, .string ⟨#[]⟩] 63) = wc at *
  generalize wb.heap.size = kc at *
  refine vStore_new rfl rfl (by intro u hu; simp at hu; rcases hu with rfl | rfl | rfl | rfl | rfl | rfl | rfl | rfl | rfl | rfl | rfl | rfl <;> rfl) ?_
  have ld := later_alloc wc (.cells (qdC (liveQ (.slice (some ⟨kc, 0, none⟩) 1 1) (.slice none 0 0) [])).toArray 42)
  have Bd := Blk.new wc (qdC (liveQ (.slice (some ⟨kc, 0, none⟩) 1 1) (.slice none 0 0) [])).toArray 42
  have eq1 : (qdC (liveQ (.slice (some ⟨kc, 0, none⟩) 1 1) (.slice none 0 0) [])).toArray = #[.slice (some ⟨kc, 0, none⟩) 1 1, .int .i64 20, .int .i64 60, .int .i64 10, .slice none 0 0, .int .i64 0, .string ⟨#[]⟩, .string ⟨#[]⟩, .slice none 0 0, .slice none 0 0, .int .i64 0, .int .i64 0] := rfl
  have hq1 : (liveQ (.slice (some ⟨kc, 0, none⟩) 1 1) (.slice none 0 0) []).Ok wc := liveQ_ok Sc (Sl.nil wc) (by simp)
  rw [← eq1]
  generalize wc.alloc (.cells (qdC (liveQ (.slice (some ⟨kc, 0, none⟩) 1 1) (.slice none 0 0) [])).toArray 42) = wd at *
  generalize wc.heap.size = kd at *
  have lad := lb.trans (lc.trans ld)
  have lbd := lc.trans ld
  have l0d := la.trans lad
  have hm := hS.ok
  have FF : ∀ w', Later wb w' → cellsAt w' ⟨kb, 0, none⟩ 2 = some [m.dv, m.mv] ∧ cellsAt w' ⟨kb, 2, none⟩ 3 = some (pdC m.p) ∧ w'.cell? ⟨kb, 6, none⟩ = some m.ev ∧ w'.cell? ⟨kb, 9, none⟩ = some m.fv := by
    intro w' hl
    have B := mdLater Bb hl
    obtain ⟨h0, h1, h3, _, h5, _, _, h8, _⟩ := mdAt B
    refine ⟨?_, h3, h5, h8⟩
    refine cellsAt_of 2 _ _ rfl fun i x hx => ?_
    rw [addr_add_eq]
    match i, hx with
    | 0, hx => cases hx; exact h0
    | 1, hx => cases hx; exact h1
    | n + 2, hx => exact absurd hx (by simp)
  have fd : cellsAt wd ⟨kd, 0, none⟩ 12 = some (qdC (liveQ (.slice (some ⟨kc, 0, none⟩) 1 1) (.slice none 0 0) [])) := Blk.cellsAt (l := qdC (liveQ (.slice (some ⟨kc, 0, none⟩) 1 1) (.slice none 0 0) [])) Bd
  obtain ⟨f1, f2, f3, f4⟩ := FF wd lbd
  have hsc : ∀ w', Later wa w' → ScIs w' m.dv m.mv m.dl m.ml := fun w' hl => ⟨Sl.later hm.dv hl, Sl.later hm.mv hl, bz_le hm.dl, bz_le hm.ml⟩
  obtain ⟨d1, d2, htl⟩ := hS.tl
  obtain ⟨d3, hpl⟩ := hS.pl
  have hpe : m.p = ⟨m.p.tv, [⟨0, 1, d1, [tA, tB]⟩, ⟨20, 10, d2, [tA]⟩], m.p.pv, [⟨0, 5, d3, []⟩], m.p.hz⟩ := by rw [← htl, ← hpl]
  have hfall : Fall m.el := by
    rw [hS.el]
    intro i hi
    have : i = 0 := by simp at hi; omega
    subst this; decide
  have hel : m.el.length = m.p.tl.length := by rw [hS.el, htl]; rfl
  have hfp : ∀ f ∈ m.fl, -1 ≤ f.proj ∧ f.proj < (m.p.pl.length : Int) := by
    rw [hS.fl, hpl]
    intro f hf
    simp only [List.mem_cons, List.not_mem_nil, or_false] at hf
    rcases hf with rfl | rfl
    · exact ⟨by decide, by show (-1 : Int) < 1; decide⟩
    · exact ⟨by decide, by show (0 : Int) < 1; decide⟩
  have htl2 : m.p.tl.length = 2 := by rw [htl]; rfl
  have hfl2 : m.fl.length = 2 := by rw [hS.fl]; rfl
  repeat' (first | (simp (disch := omega) only [push_cast, ↓reduceIte, zA, zG, zB, zH, zI, zC, zJ, zK, zL, zD, zE, zF, zM, zN, zO, zP, zQ, reduceCtorEq, not_true_eq_false, not_false_eq_true, f1, f2, f3, f4, fd, addr_add_eq, Nat.zero_add]) | (first | refine iE ?_ ?_ | refine iD ?_ ?_ | refine iQ ?_ ?_ | refine iV ?_ ?_) <;> intro _ | refine And.intro (by omega) ?_ | fail)
  refine (choose_c m.dv m.mv m.dl m.ml m.p m.ev m.el (liveQ (.slice (some ⟨kc, 0, none⟩) 1 1) (.slice none 0 0) []) m.fv m.fl wd (hsc wd lad) (hm.p.later lad) (Sl.later hm.ev lad) hm.el (hq1.later ld) (hm.fv.later lad) hm.fl hel hfall (by omega) (by rw [hS.dl]; exact liveQ_in (by simp)) (by omega) hfp).mono ?_
  rintro _ we ⟨⟨lv, rfl, hlv⟩, le⟩
  have hr1 : chooseR (elB m.dl m.p (liveQ (.slice (some ⟨kc, 0, none⟩) 1 1) (.slice none 0 0) [])) (bestS m.dl m.p (liveQ (.slice (some ⟨kc, 0, none⟩) 1 1) (.slice none 0 0) []) m.fl) (strL (liveQ (.slice (some ⟨kc, 0, none⟩) 1 1) (.slice none 0 0) []).fr (liveQ (.slice (some ⟨kc, 0, none⟩) 1 1) (.slice none 0 0) []).to m.el m.p.tl.length) = ([⟨40, 60, 0, 0, 4⟩, ⟨20, 40, 1, -1, 0⟩], -1, 0) := by
    rw [hS.dl, hS.fl, htl2, hS.el, hpe]
    exact live1 _ _ _ _ _ _ _ _
  rw [hr1] at hlv
  have lae := lad.trans le
  have lbe := lbd.trans le
  have fe := cellsAt_later le 12 fd
  repeat' (first | (simp (disch := omega) only [push_cast, ↓reduceIte, zA, zG, zB, zH, zI, zC, zJ, zK, zL, zD, zE, zF, zM, zN, zO, zP, zQ, reduceCtorEq, not_true_eq_false, not_false_eq_true, hr1, fe]) | (first | refine iE ?_ ?_ | refine iD ?_ ?_ | refine iQ ?_ ?_ | refine iV ?_ ?_) <;> intro _ | refine And.intro (by omega) ?_ | fail)
  refine vStore_new rfl rfl (by intro u hu; rw [eq1] at hu; simp at hu; rcases hu with rfl | rfl | rfl | rfl | rfl | rfl | rfl | rfl | rfl | rfl | rfl | rfl <;> rfl) ?_
  have lf := later_alloc we (.cells (qdC (liveQ (.slice (some ⟨kc, 0, none⟩) 1 1) (.slice none 0 0) [])).toArray 42)
  have Bf := Blk.new we (qdC (liveQ (.slice (some ⟨kc, 0, none⟩) 1 1) (.slice none 0 0) [])).toArray 42
  generalize we.alloc (.cells (qdC (liveQ (.slice (some ⟨kc, 0, none⟩) 1 1) (.slice none 0 0) [])).toArray 42) = wf at *
  have zf := lae.size
  generalize hkf : we.heap.size = kf at *
  have lg := later_alloc wf (.cells #[.string ⟨#[98]⟩] 9)
  have Sg : StS (wf.alloc (.cells #[.string ⟨#[98]⟩] 9)) (.slice (some ⟨wf.heap.size, 0, none⟩) 1 1) [tB] := Sl.lit wf [.string ⟨#[98]⟩] 9 (by unfold maxLen; simp)
  repeat' (first | (simp (disch := omega) only [push_cast, ↓reduceIte, zA, zG, zB, zH, zI, zC, zJ, zK, zL, zD, zE, zF, zM, zN, zO, zP, zQ, reduceCtorEq, not_true_eq_false, not_false_eq_true, addr_add_eq, Nat.zero_add]) | (first | refine iE ?_ ?_ | refine iD ?_ ?_ | refine iQ ?_ ?_ | refine iV ?_ ?_) <;> intro _ | refine And.intro (by omega) ?_ | fail)
  have Bg := Bf.chg (Chg.of_later (ks := []) lg) (by simp)
  generalize wf.alloc (.cells #[.string ⟨#[98]⟩] 9) = wg at *
  have zg := Bf.lt
  generalize wf.heap.size = kg at *
  have g4 : wg.cell? ⟨kf, 4, none⟩ = some (.slice none 0 0) := Bg.cell 4
  have fz := Bg.frozen 4
  have Bh := Bg.set 4 (.slice (some ⟨kg, 0, none⟩) 1 1)
  have ch : Chg wg (wg.setCell ⟨kf, 4, none⟩ (.slice (some ⟨kg, 0, none⟩) 1 1)) [kf] := chg_setCell wg (by simp) _
  have Bh : Blk (wg.setCell ⟨kf, 4, none⟩ (.slice (some ⟨kg, 0, none⟩) 1 1)) kf (qdC (liveQ (.slice (some ⟨kc, 0, none⟩) 1 1) (.slice (some ⟨kg, 0, none⟩) 1 1) [tB])).toArray 42 := Bh
  repeat' (first | (simp (disch := omega) only [push_cast, ↓reduceIte, zA, zG, zB, zH, zI, zC, zJ, zK, zL, zD, zE, zF, zM, zN, zO, zP, zQ, reduceCtorEq, not_true_eq_false, not_false_eq_true, g4, fz, addr_add_eq, Nat.zero_add]) | (first | refine iE ?_ ?_ | refine iD ?_ ?_ | refine iQ ?_ ?_ | refine iV ?_ ?_) <;> intro _ | refine And.intro (by omega) ?_ | fail)
  generalize wg.setCell ⟨kf, 4, none⟩ (.slice (some ⟨kg, 0, none⟩) 1 1) = wh at *
  have leh : Later we wh := Chg.later (lf.trans lg) ch (by intro j hj; rw [List.mem_singleton.1 hj, hkf]; exact Nat.le_refl _)
  have lah := lae.trans leh
  have lbh := lbe.trans leh
  have hcn : kg ≠ kf := by
    intro h
    rw [h] at Sg
    have hc : wg.cell? ⟨kf, 0, none⟩ = some (.string tB) := Sl.at Sg (i := 0) rfl
    have hc2 : wg.cell? ⟨kf, 0, none⟩ = some (.slice (some ⟨kc, 0, none⟩) 1 1) := Bg.cell 0
    rw [hc2] at hc
    cases hc
  have Sh : StS wh (.slice (some ⟨kg, 0, none⟩) 1 1) [tB] := Sl.chg Sg ch (by simpa using hcn) (by simp [inB])
  have hq2 : (liveQ (.slice (some ⟨kc, 0, none⟩) 1 1) (.slice (some ⟨kg, 0, none⟩) 1 1) [tB]).Ok wh := liveQ_ok (RecS.later Sc (ld.trans (le.trans leh))) Sh (by intro s hs; rw [List.mem_singleton.1 hs]; decide)
  have fh : cellsAt wh ⟨kf, 0, none⟩ 12 = some (qdC (liveQ (.slice (some ⟨kc, 0, none⟩) 1 1) (.slice (some ⟨kg, 0, none⟩) 1 1) [tB])) := Blk.cellsAt (l := qdC (liveQ (.slice (some ⟨kc, 0, none⟩) 1 1) (.slice (some ⟨kg, 0, none⟩) 1 1) [tB])) Bh
  obtain ⟨f1, f2, f3, f4⟩ := FF wh lbh
  repeat' (first | (simp (disch := omega) only [push_cast, ↓reduceIte, zA, zG, zB, zH, zI, zC, zJ, zK, zL, zD, zE, zF, zM, zN, zO, zP, zQ, reduceCtorEq, not_true_eq_false, not_false_eq_true, f1, f2, f3, f4, fh, addr_add_eq, Nat.zero_add]) | (first | refine iE ?_ ?_ | refine iD ?_ ?_ | refine iQ ?_ ?_ | refine iV ?_ ?_) <;> intro _ | refine And.intro (by omega) ?_ | fail)
  refine (choose_c m.dv m.mv m.dl m.ml m.p m.ev m.el (liveQ (.slice (some ⟨kc, 0, none⟩) 1 1) (.slice (some ⟨kg, 0, none⟩) 1 1) [tB]) m.fv m.fl wh (hsc wh lah) (hm.p.later lah) (Sl.later hm.ev lah) hm.el hq2 (hm.fv.later lah) hm.fl hel hfall (by omega) (by rw [hS.dl]; exact liveQ_in (by simp)) (by omega) hfp).mono ?_
  rintro _ wi ⟨⟨lv2, rfl, hlv2⟩, li⟩
  have hr2 : chooseR (elB m.dl m.p (liveQ (.slice (some ⟨kc, 0, none⟩) 1 1) (.slice (some ⟨kg, 0, none⟩) 1 1) [tB])) (bestS m.dl m.p (liveQ (.slice (some ⟨kc, 0, none⟩) 1 1) (.slice (some ⟨kg, 0, none⟩) 1 1) [tB]) m.fl) (strL (liveQ (.slice (some ⟨kc, 0, none⟩) 1 1) (.slice (some ⟨kg, 0, none⟩) 1 1) [tB]).fr (liveQ (.slice (some ⟨kc, 0, none⟩) 1 1) (.slice (some ⟨kg, 0, none⟩) 1 1) [tB]).to m.el m.p.tl.length) = ([], 1, 261) := by
    rw [hS.dl, hS.fl, htl2, hS.el, hpe]
    exact live2 _ _ _ _ _ _ _ _
  have hlv3 := hlv.later (leh.trans li)
  obtain ⟨lo, lc', hlo, _⟩ := RecS.slice hlv3
  have hlo : lv = .slice lo 2 lc' := hlo
  rw [hlo] at hlv3
  obtain ⟨a0, rfl, p0⟩ := RecS.at pnC_len hlv3 (i := 0) (by simp)
  have p1 := RecS.get pnC_len hlv3 (i := 1) (by simp)
  rw [Nat.zero_mul, addr_add_zero, List.getElem_cons_zero] at p0
  rw [List.getElem_cons_succ, List.getElem_cons_zero] at p1
  have t1 : ((1 : Int)).toNat * 5 = 1 * 5 := rfl
  repeat' (first | (simp (disch := omega) only [push_cast, ↓reduceIte, zA, zG, zB, zH, zI, zC, zJ, zK, zL, zD, zE, zF, zM, zN, zO, zP, zQ, reduceCtorEq, not_true_eq_false, not_false_eq_true, hr2, hlo, p0, p1, addr_add_zero]) | (first | refine iE ?_ ?_ | refine iD ?_ ?_ | refine iQ ?_ ?_ | refine iV ?_ ?_) <;> intro _ | refine And.intro (by omega) ?_ | fail)
  refine vBin_pn _ _ ⟨40, 60, 0, 0, 4⟩ ⟨40, 60, 0, 0, 4⟩ ?_
  repeat' (first | (simp (disch := omega) only [push_cast, ↓reduceIte, zA, zG, zB, zH, zI, zC, zJ, zK, zL, zD, zE, zF, zM, zN, zO, zP, zQ, reduceCtorEq, not_true_eq_false, not_false_eq_true, hr2, hlo, p0, p1, addr_add_zero, decide_true]) | (first | refine iE ?_ ?_ | refine iD ?_ ?_ | refine iQ ?_ ?_ | refine iV ?_ ?_) <;> intro _ | refine And.intro (by omega) ?_ | fail)
  refine vBin_pn _ _ ⟨20, 40, 1, -1, 0⟩ ⟨20, 40, 1, -1, 0⟩ ?_
  repeat' (first | (simp (disch := omega) only [push_cast, ↓reduceIte, zA, zG, zB, zH, zI, zC, zJ, zK, zL, zD, zE, zF, zM, zN, zO, zP, zQ, reduceCtorEq, not_true_eq_false, not_false_eq_true, hr2, hlo, decide_true]) | (first | refine iE ?_ ?_ | refine iD ?_ ?_ | refine iQ ?_ ?_ | refine iV ?_ ?_) <;> intro _ | refine And.intro (by omega) ?_ | refine drawn_q ?_ | fail)
  first | exact ⟨rfl, (la.trans (lah.trans li))⟩ | exact (la.trans (lah.trans li))
end Go.Proofs.Ytnofalhkapmcnaa
end
section
namespace Go.Proofs.Ytnofalhkapmcnaa
open Go.Vc Go.Key Go.RowKit Go.ChangeShapes
set_option maxRecDepth 100000
theorem part_le {H : Type} {d : DataW H} : ∀ {l : List (DataW H)}, d ∈ l → Rows.uptoBulk d ≤ Rows.uptoBulkAll l
  | [], h => by cases h
  | x :: r, h => by
    simp only [Rows.uptoBulkAll]
    rcases List.mem_cons.1 h with e | e
    · subst e; omega
    · have := part_le e; omega
theorem one_le {H : Type} (d : DataW H) : 1 ≤ Rows.uptoBulk d := by
  cases d with
  | lit l => cases l <;> simp [Rows.uptoBulk]
  | _ => simp [Rows.uptoBulk]
theorem length_le {H : Type} : ∀ (l : List (DataW H)), l.length ≤ Rows.uptoBulkAll l
  | [] => by simp [Rows.uptoBulkAll]
  | x :: r => by have := one_le x; have := length_le r; simp only [Rows.uptoBulkAll, List.length_cons]; omega
theorem bulk_app {H : Type} : ∀ (l r : List (DataW H)), Rows.uptoBulkAll (l ++ r) = Rows.uptoBulkAll l + Rows.uptoBulkAll r
  | [], r => by simp [Rows.uptoBulkAll]
  | x :: l, r => by simp only [List.cons_append, Rows.uptoBulkAll, bulk_app l r]; omega
section
variable {H : Type} {enc : TypeId × Value → H} {w : World} {sp : Nat → Bool} {hd : Bool}
/-- A slice's length. -/
theorem bulk_slice {t e : TypeId} {m n c : Nat} {o : Option Addr} {y : DataW H × List MemPlace} (ht : Try.prog.underlying t = some (.slice e)) (hy : DataW.trod enc Try.prog w 0 sp hd m t [.slice o n c] = some y) (ho : o = none → n = 0) : n ≤ Rows.uptoBulk y.1 := by
  rcases DataW.trod_slice ht hy with ⟨h0, _⟩ | ⟨a, len, cap, elems, rest, k, hmn, hv, hyx, _, hl, hmx, hlen, hel, _⟩
  · have h0 := (List.cons.inj h0).1
    simp only [Value.slice.injEq] at h0
    omega
  · have hv := (List.cons.inj hv).1
    simp only [Value.slice.injEq] at hv
    rw [hyx]
    simp only [Rows.uptoBulk]
    have := length_le (elems.map (·.1))
    rw [List.length_map] at this
    omega
/-- The lists of a schema. -/
theorem bulk_schema {m : Nat} {dv mv : Value} {d ml : List ByteArray} {y : DataW H × List MemPlace} (hy : DataW.trod enc Try.prog w 0 sp hd m 24 [dv, mv] = some y) (hd' : StS w dv d) (hm : StS w mv ml) : d.length ≤ Rows.uptoBulk y.1 ∧ ml.length ≤ Rows.uptoBulk y.1 := by
  obtain ⟨o1, c1, rfl, _, _, _, g1⟩ := hd'.openM
  obtain ⟨o2, c2, rfl, _, _, _, g2⟩ := hm.openM
  obtain ⟨xs, n, _, hyx, hl, hxl, hf⟩ := DataW.trod_struct Try.underlying24 hy
  have h0 := hf 0 _ rfl
  have h1 := hf 1 _ rfl
  have hxl2 : xs.length = 2 := hxl
  match xs, hxl2 with
  | [x0, x1], _ =>
    rw [hyx]
    simp only [Rows.uptoBulk, Rows.uptoBulkAll, List.map_cons, List.map_nil]
    have e0 := bulk_slice (n := d.length) (c := c1) (o := o1) Try.underlying22 h0 (fun h => by rw [(g1 h).1]; rfl)
    have e1 := bulk_slice (n := ml.length) (c := c2) (o := o2) Try.underlying22 h1 (fun h => by rw [(g2 h).1]; rfl)
    have e0 : d.length ≤ Rows.uptoBulk x0.1 := e0
    have e1 : ml.length ≤ Rows.uptoBulk x1.1 := e1
    omega
theorem bulk_manifest {v : Value} {d : DataW H} {ps : List MemPlace} {m : MD} (h : DataW.Trod enc Try.prog w 0 sp hd 34 v d ps) (hv : v = .agg (mdC m).toArray) (hm : m.Ok w) : m.dl.length ≤ Rows.uptoBulk d ∧ m.ml.length ≤ Rows.uptoBulk d := by
  obtain ⟨fuel, h⟩ := h
  subst hv
  have h : DataW.trod enc Try.prog w 0 sp hd fuel 34 (mdC m) = some (d, ps) := h
  obtain ⟨xs, n, _, hyx, hl, hxl, hf⟩ := DataW.trod_struct Try.underlying34 h
  have h0 := hf 0 _ rfl
  have hlt : 0 < xs.length := by rw [hxl]; decide
  rw [List.getElem?_eq_getElem hlt] at h0
  have h0 : DataW.trod enc Try.prog w 0 sp hd n 24 [m.dv, m.mv] = some xs[0] := h0
  obtain ⟨e0, e1⟩ := bulk_schema h0 hm.dv hm.mv
  have hd : d = .agg (xs.map (·.1)) := congrArg Prod.fst hyx
  have hp := part_le (List.mem_map_of_mem (f := (·.1)) (List.getElem_mem hlt))
  rw [hd]
  simp only [Rows.uptoBulk]
  omega
end
/-- The row's step, with both bounds. -/
theorem lifted_laterU {os : Os} {H : Type} {enc : TypeId × Value → H} {fid : FuncId} {f : Func} {s : ChangeSpec} {conds : List PathCond} {tb : TypeId} {F : Stop.Interp}
    (own : ownKnob Try.checked.prog.godebug = none) (started : os.Started) (noInit : Try.checked.prog.inits.idxOf? fid = none) (hf : Try.checked.prog.funcs[fid]? = some f) (hb : HasBody Try.checked.prog fid)
    (witness : ∃ (w : World) (tape : Tape) (i : Input), w.os = os ∧ (w.forCall tape i).Shaped Try.checked.prog ∧ i.vars = [] ∧ Input.okWide Try.checked.prog (w.forCall tape i) .any w.heap.size fid i ∧
      (Rows.OpenSpec.upto s).pre6 enc Try.checked.prog f conds false (w.forCall tape i).memory i.args ∧ ({} : Assume).holds Try.checked.prog (lone (Frame.enter Try.checked.prog fid i.args .normal) [] (w.forCall tape i)))
    (hl : laidOutB Try.checked.prog = true) (hts : ∀ t ∈ f.params.toList, Try.checked.prog.readableRec t = true ∧ t < Try.checked.prog.types.size) (hr : f.resultTypes = #[tb]) (htb : Try.checked.prog.underlying tb = some .bool)
    (hv : s.vars = []) (hfn : ∀ ds : List (DataW H), ds.length = f.params.toList.length → s.fn H ds = { results := [.lit (.bool true)], args := ds })
    (walk : ∀ (W : World) (base : Nat) (args : Array Value) (ds : List (DataW H)) (p : List MemPlace), (∀ (j : Nat) t v, f.params[j]? = some t → args[j]? = some v → Value.okWide Try.checked.prog W .any base t v) →
      (∀ (j : Nat) t d, f.params.toList[j]? = some t → ds[j]? = some d → Sz Try.checked.prog t d) → Rows.uptoBulkAll ds ≤ 1048576 →
      DataW.TrodAll enc Try.checked.prog W 0 (fun _ => true) true f.params.toList args.toList ds p → FnC Try.checked.prog fid args W fun v w' => v = .bool true ∧ Later W w') :
    ReturnsInHanded {} Try.checked os fid .any ((Rows.OpenSpec.upto s).pre6 enc Try.checked.prog f conds false) (((Rows.OpenSpec.upto s).at F).post enc Try.checked.prog f false true false false) := by
  refine returnsInHanded_of_cond_sized (C := Try.checked) (s := Rows.OpenSpec.upto s) (k := Rows.uptoSmall) rfl own started noInit hf witness ?_
  intro W base args ds gs before hval hW _ hk hwt _
  have hW' := hW
  obtain ⟨p, q, hA, hV, rfl, hfz, hnd⟩ := hW
  have hz : ∀ (j : Nat) t d, f.params.toList[j]? = some t → ds[j]? = some d → Sz Try.checked.prog t d := by
    intro j t d hj hd n hn
    have h1 := (List.getElem?_eq_some_iff.1 hj).1
    have h2 := (List.getElem?_eq_some_iff.1 hd).1
    have := List.all_eq_true.1 hwt n (DataW.weights_mem_each (j := j) (by rw [List.getElem?_append_left h1]; exact hj) (by rw [List.getElem?_append_left h2]; exact hd) n hn)
    simpa using this
  have hbk : Rows.uptoBulkAll (ds ++ gs) ≤ 1048576 := of_decide_eq_true hk
  rw [bulk_app] at hbk
  have hw := walk W base args ds p hval hz (by omega) hA
  unfold FnC at hw
  rw [hb args W] at hw
  have hw : Ret Try.checked.prog fid args W fun v w' => v = .bool true ∧ Later W w' := hw
  refine hw.mono fun e w' ⟨v, he, hv', hlat⟩ => ?_
  subst hv'
  have hpost : s.post enc Try.checked.prog f false true false false W args (.bool true) w' := post_later hl hts hr htb hv (hfn ds (trodAll_ps_len hA).2) hW' hlat
  exact ⟨_, he, hpost⟩
end Go.Proofs.Ytnofalhkapmcnaa
end
section
namespace Go.Vc
theorem chooseR_congr {E : PN → Bool} {b b' : PN → PN} {l : List PN} (h : ∀ x ∈ l, b x = b' x) : chooseR E b l = chooseR E b' l := by
  unfold chooseR
  split
  · rfl
  · rw [List.map_congr_left h]
end Go.Vc
namespace Go.Proofs.Ytnofalhkapmcnaa
open Go.Vc Go.Key Go.Bkt
set_option maxRecDepth 100000
/-- A manifest and a query in boxes. -/
structure BoxF (m : MD) (q : QD) (kb kq : Nat) (w' : World) : Prop where
  mc : cellsAt w' ⟨kb, 0, none⟩ 12 = some (mdC m)
  qc : cellsAt w' ⟨kq, 0, none⟩ 12 = some (qdC q)
  sc : cellsAt w' ⟨kb, 0, none⟩ 2 = some [m.dv, m.mv]
  pc : cellsAt w' ⟨kb, 2, none⟩ 3 = some (pdC m.p)
  pt : w'.cell? ⟨kb, 2, none⟩ = some m.p.tv
  pp : w'.cell? ⟨kb, 3, none⟩ = some m.p.pv
  ev : w'.cell? ⟨kb, 6, none⟩ = some m.ev
  fv : w'.cell? ⟨kb, 9, none⟩ = some m.fv
  fr : w'.cell? ⟨kq, 1, none⟩ = some (.int .i64 q.fr)
  to : w'.cell? ⟨kq, 2, none⟩ = some (.int .i64 q.to)
theorem boxF {m : MD} {q : QD} {kb kq : Nat} {w1 : World} (B : Blk w1 kb (mdC m).toArray 34) (C : Blk w1 kq (qdC q).toArray 42) : ∀ w', Later w1 w' → BoxF m q kb kq w' := by
  intro w' hl
  have B := mdLater B hl
  have C := qdLater C hl
  obtain ⟨h0, h1, h3, _, h5, _, _, h8, _⟩ := mdAt B
  refine ⟨Blk.cellsAt (l := mdC m) B, Blk.cellsAt (l := qdC q) C, ?_, h3, B.cell 2, B.cell 3, h5, h8, C.cell 1, C.cell 2⟩
  refine cellsAt_of 2 _ _ rfl fun i x hx => ?_
  rw [addr_add_eq]
  match i, hx with
  | 0, hx => cases hx; exact h0
  | 1, hx => cases hx; exact h1
  | n + 2, hx => exact absurd hx (by simp)
theorem mdSc {w w' : World} {m : MD} (hm : m.Ok w) (hl : Later w w') : ScIs w' m.dv m.mv m.dl m.ml := ⟨Sl.later hm.dv hl, Sl.later hm.mv hl, bz_le hm.dl, bz_le hm.ml⟩
/-- What the laws know. -/
structure Know (m : MD) (q : QD) : Prop where
  el : m.el.length = m.p.tl.length
  tl : 1 ≤ m.p.tl.length ∧ m.p.tl.length ≤ 4
  pl : m.p.pl.length ≤ 4
  fl : m.fl.length ≤ 40
  fall : Fall m.el
  fi : FilesIn m.p m.fl
  qi : QIn m.dl q
  r : RgOk m
  q0 : 0 ≤ q.fr ∧ q.fr < q.to ∧ q.to ≤ 1099511627776
theorem Ft26.know {m : MD} {q : QD} (h : Ft26 m q) : Know m q := by
  obtain ⟨h1, h2⟩ := h.qin
  exact ⟨h.r.ln, ⟨h.r.pl.n.1, h.r.pl.n.2.1⟩, h.r.pl.n.2.2, h.r.fn, h.r.fall, h.r.fi, h1, h.r, h2⟩
abbrev LL26 (m : MD) (q : QD) : List PN := strL q.fr q.to m.el m.p.tl.length
theorem LL26.mem {m : MD} {q : QD} (k : Know m q) {w : World} (hm : m.Ok w) (hq : q.Ok w) : ∀ x ∈ LL26 m q, PnIn m.p x ∧ I6 x.fr ∧ I6 x.to ∧ x.proj = -1 ∧ x.rows = 0 := by
  intro x hx
  obtain ⟨i, hi, rfl, _⟩ := strL_mem hx
  have := strI_i64 (el := m.el) hq.fr hq.to hm.el i
  exact ⟨⟨by show (0 : Int) ≤ (i : Int) ∧ (i : Int) < _; omega, by show (-1 : Int) ≤ -1 ∧ (-1 : Int) < _; omega⟩, this.1, this.2, rfl, rfl⟩
theorem best_same {m : MD} {q : QD} (k : Know m q) {w : World} (hm : m.Ok w) (hq : q.Ok w) : chooseR (elB m.dl m.p q) (bestS m.dl m.p q m.fl) (LL26 m q) = chooseR (elB m.dl m.p q) (fun x => bestD m.dl m.p q m.fl x m.p.pl.length) (LL26 m q) :=
  chooseR_congr fun x hx => by
    obtain ⟨_, _, _, h1, h2⟩ := LL26.mem k hm hq x hx
    exact bestS_is k.fi h1 h2
end Go.Proofs.Ytnofalhkapmcnaa
end
