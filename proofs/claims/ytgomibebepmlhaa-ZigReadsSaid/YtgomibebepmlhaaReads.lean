/- ZigReads holds for every input: what is read of any bytes, and how much is left, is as the document says. -/
import Derived.Test.YtgomibebepmlhaaRows
import Derived.Test.YtgomibebepmlhaaCodesL
import Derived.Test.YtgomibebepmlhaaActs
set_option linter.unusedSimpArgs false
namespace Go.Proofs.Ytgomibebepmlhaa.zigReads
open Go.Vc Go.Zig Go.ChangeShapes Go.WideShapes Go.ChangeAt Go.RowKit

/-- A row is not nil where it has an element. -/
theorem some_of_lt {w : World} {s n c m : Nat} {o : Option Addr} {xs : List Value} (h : SlN w s (.slice o n c) m xs) {i : Nat} (hi : i < n) : ∃ a, o = some a := by
  cases o with
  | none => have := h.len.2.2.2.2 rfl; omega
  | some a => exact ⟨a, rfl⟩
theorem step_one (a : Step) : ∀ u ∈ a.cells.toArray.toList, u.oneCell' = true := by
  intro u hu
  simp only [Step.cells, List.mem_cons, List.not_mem_nil, or_false] at hu
  rcases hu with rfl | rfl | rfl | rfl | rfl <;> rfl
set_option maxRecDepth 100000 in
theorem law_c (b : Value) (l : List UInt8) (v : Value) (acts : List Step) (w : World) (hb : Sl w b (l.map u8v)) (hs : SlN w 5 v acts.length (acts.map Step.cells).flatten) (hok : ∀ a ∈ acts, a.ok) :
    FnC Try.prog 13 #[b, v] w fun v w' => v = .bool true ∧ Later w w' := by
  obtain ⟨o, c, rfl, h1, h2, h3, h4⟩ := hb.open
  obtain ⟨os, cs, rfl, g1, g2, g3, g4, g5⟩ := hs.open
  unfold maxLen at h2 g2
  simp only [List.length_map] at hb h1 ⊢
  refine enter13 _ _ ?_
  unfold B13
  repeat' (first | (simp (disch := omega) only [push_cast, ↓reduceIte, Nat.reduceEqDiff, Int.reduceToNat, Nat.reducePow, Int.reducePow, Int.reduceNeg, Nat.reduceMul, Int.reduceMul, Int.reduceAdd, Int.reduceSub, Nat.reduceAdd, Nat.reduceSub, Nat.reduceLeDiff, Int.reduceLT, Int.reduceLE, Int.reduceEq, Int.reduceMod, Int.reduceDiv, reduceCtorEq]) | refine vIfE_of (fun _ => ?_) (fun _ => ?_) | refine vIfD_of (fun _ => ?_) (fun _ => ?_) | refine vIfQ_of (fun _ => ?_) (fun _ => ?_) | refine vIfV_of (fun _ => ?_) (fun _ => ?_) | refine And.intro (by omega) ?_ | fail)
  · refine (alive_c w).mono ?_
    rintro _ w1 ⟨rfl, hl1⟩
    repeat' (first | (simp (disch := omega) only [push_cast, ↓reduceIte, Nat.reduceEqDiff, Int.reduceToNat, Nat.reducePow, Int.reducePow, Int.reduceNeg, Nat.reduceMul, Int.reduceMul, Int.reduceAdd, Int.reduceSub, Nat.reduceAdd, Nat.reduceSub, Nat.reduceLeDiff, Int.reduceLT, Int.reduceLE, Int.reduceEq, Int.reduceMod, Int.reduceDiv, reduceCtorEq]) | refine vIfE_of (fun _ => ?_) (fun _ => ?_) | refine vIfD_of (fun _ => ?_) (fun _ => ?_) | refine vIfQ_of (fun _ => ?_) (fun _ => ?_) | refine vIfV_of (fun _ => ?_) (fun _ => ?_) | refine And.intro (by omega) ?_ | fail)
    exact hl1
  · refine (zOpen_c _ l w hb (by omega)).mono ?_
    rintro _ w1 ⟨kr, d, rfl, hR, hkr, hd, hl1⟩
    repeat' (first | (simp (disch := omega) only [push_cast, ↓reduceIte, Nat.reduceEqDiff, Int.reduceToNat, Nat.reducePow, Int.reducePow, Int.reduceNeg, Nat.reduceMul, Int.reduceMul, Int.reduceAdd, Int.reduceSub, Nat.reduceAdd, Nat.reduceSub, Nat.reduceLeDiff, Int.reduceLT, Int.reduceLE, Int.reduceEq, Int.reduceMod, Int.reduceDiv, reduceCtorEq]) | refine vIfE_of (fun _ => ?_) (fun _ => ?_) | refine vIfD_of (fun _ => ?_) (fun _ => ?_) | refine vIfQ_of (fun _ => ?_) (fun _ => ?_) | refine vIfV_of (fun _ => ?_) (fun _ => ?_) | refine And.intro (by omega) ?_ | fail)
    have hlt1 : kr < w1.heap.size := by obtain ⟨_, _, _, _, _, _, _, h⟩ := hR; exact h
    have hdb : ∃ d0, d0 ≠ kr ∧ d0 ≠ w1.heap.size ∧ inB d0 (.slice o l.length c) := by
      rcases inB_lt hb with h | ⟨k0, hk0, h⟩
      · exact ⟨w1.heap.size + 1, by omega, by omega, h _⟩
      · exact ⟨k0, by omega, by have := hl1.size; omega, h⟩
    obtain ⟨d0, hd0r, hd0m, hin0⟩ := hdb
    obtain ⟨d, hdm, hR⟩ := hR.away (Nat.le_refl _)
    have hM : Rm (w1.alloc (.cells (Value.agg #[.slice o l.length c, .int .i64 0, .bool false]).cells 57)) w1.heap.size d0 l 0 false :=
      Rm.mk' (i := 0) (Blk.new _ _ _) (hb.later (hl1.alloc _)) hin0 hd0m
    have hR2 : Rd (w1.alloc (.cells (Value.agg #[.slice o l.length c, .int .i64 0, .bool false]).cells 57)) kr d l := hR.chg (Chg.of_later (ks := []) (later_alloc _ _)) (by simp) (by simp)
    have hl2 : Later w (w1.alloc (.cells (Value.agg #[.slice o l.length c, .int .i64 0, .bool false]).cells 57)) := hl1.alloc _
    have hkm : w.heap.size ≤ w1.heap.size := hl1.size
    have hne : kr ≠ w1.heap.size := by omega
    generalize w1.alloc (.cells (Value.agg #[.slice o l.length c, .int .i64 0, .bool false]).cells 57) = w2 at *
    generalize w1.heap.size = km at *
    refine vc_loop W13_0 (fun i : Nat => [(7, .int .i64 (i : Int))])
      (fun i w' => i ≤ min acts.length 60 ∧ Later w w' ∧ ∃ l1 j bad, Rd w' kr d l1 ∧ Rm w' km d0 l j bad ∧ j ≤ l.length ∧ l.drop j = l1) (fun i => 60 - i) 0 (by decide) ?_ ?_ ?_
    · simp (disch := omega) only [push_cast, ↓reduceIte, Nat.reduceEqDiff, Int.reduceToNat, Nat.reducePow, Int.reducePow, Int.reduceNeg, Nat.reduceMul, Int.reduceMul, Int.reduceAdd, Int.reduceSub, Nat.reduceAdd, Nat.reduceSub, Nat.reduceLeDiff, Int.reduceLT, Int.reduceLE, Int.reduceEq, Int.reduceMod, Int.reduceDiv, reduceCtorEq]
    · exact ⟨by omega, hl2, l, 0, false, hR2, hM, by omega, rfl⟩
    rintro i uu w3 ⟨hi, hl3, l1, j, bad, hR3, hM3, hj, hlj⟩
    repeat' (first | (simp (disch := omega) only [push_cast, ↓reduceIte, Nat.reduceEqDiff, Int.reduceToNat, Nat.reducePow, Int.reducePow, Int.reduceNeg, Nat.reduceMul, Int.reduceMul, Int.reduceAdd, Int.reduceSub, Nat.reduceAdd, Nat.reduceSub, Nat.reduceLeDiff, Int.reduceLT, Int.reduceLE, Int.reduceEq, Int.reduceMod, Int.reduceDiv, reduceCtorEq]) | refine vIfE_of (fun _ => ?_) (fun _ => ?_) | refine vIfD_of (fun _ => ?_) (fun _ => ?_) | refine vIfQ_of (fun _ => ?_) (fun _ => ?_) | refine vIfV_of (fun _ => ?_) (fun _ => ?_) | refine And.intro (by omega) ?_ | fail)
    · have hi' : i < acts.length := by omega
      obtain ⟨aa, rfl⟩ := some_of_lt hs hi'
      have hact : (acts.map Step.cells)[i]? = some acts[i].cells := by simp [hi']
      have hrow : cellsAt w3 (aa.add (i * 5)) 5 = some acts[i].cells := (hs.later hl3).row (steps_len acts) hact
      obtain ⟨q0, q1, q2, q3, q4⟩ := hok acts[i] (List.getElem_mem _)
      generalize acts[i] = a at *
      repeat' (first | (simp (disch := omega) only [push_cast, ↓reduceIte, Nat.reduceEqDiff, Int.reduceToNat, Nat.reducePow, Int.reducePow, Int.reduceNeg, Nat.reduceMul, Int.reduceMul, Int.reduceAdd, Int.reduceSub, Nat.reduceAdd, Nat.reduceSub, Nat.reduceLeDiff, Int.reduceLT, Int.reduceLE, Int.reduceEq, Int.reduceMod, Int.reduceDiv, reduceCtorEq, hrow]) | refine vIfE_of (fun _ => ?_) (fun _ => ?_) | refine vIfD_of (fun _ => ?_) (fun _ => ?_) | refine vIfQ_of (fun _ => ?_) (fun _ => ?_) | refine vIfV_of (fun _ => ?_) (fun _ => ?_) | refine And.intro (by omega) ?_ | fail)
      refine vStore_new rfl rfl (step_one a) ?_
      have bA : Blk (w3.alloc (.cells a.cells.toArray 42)) w3.heap.size a.cells.toArray 42 := Blk.new _ _ _
      have hR4 := hR3.chg (Chg.of_later (ks := []) (later_alloc w3 (.cells a.cells.toArray 42))) (by simp) (by simp)
      have hM4 := hM3.chg (Chg.of_later (ks := []) (later_alloc w3 (.cells a.cells.toArray 42))) (by simp) (by simp)
      have hl4 := hl3.alloc (.cells a.cells.toArray 42)
      have hka : km < w3.heap.size := by obtain ⟨_, _, _, _, _, _, _, h⟩ := hM3; exact h
      have hlw : w.heap.size ≤ w3.heap.size := hl3.size
      generalize w3.alloc (.cells a.cells.toArray 42) = w4 at *
      generalize w3.heap.size = ka at *
      have f0 : w4.cell? ⟨ka, 0, none⟩ = some (.int .i64 a.kind) := bA.cell 0
      have f1 : w4.cell? ⟨ka, 1, none⟩ = some (.int .i64 a.n) := bA.cell 1
      have f2 : w4.cell? ⟨ka, 2, none⟩ = some (.int .i64 a.least) := bA.cell 2
      have f3 : w4.cell? ⟨ka, 3, none⟩ = some (.int .i64 a.most) := bA.cell 3
      repeat' (first | (simp (disch := omega) only [push_cast, ↓reduceIte, Nat.reduceEqDiff, Int.reduceToNat, Nat.reducePow, Int.reducePow, Int.reduceNeg, Nat.reduceMul, Int.reduceMul, Int.reduceAdd, Int.reduceSub, Nat.reduceAdd, Nat.reduceSub, Nat.reduceLeDiff, Int.reduceLT, Int.reduceLE, Int.reduceEq, Int.reduceMod, Int.reduceDiv, reduceCtorEq, f0, f1, f2, f3, addr_add_eq, Nat.zero_add]) | refine vIfE_of (fun _ => ?_) (fun _ => ?_) | refine vIfD_of (fun _ => ?_) (fun _ => ?_) | refine vIfQ_of (fun _ => ?_) (fun _ => ?_) | refine vIfV_of (fun _ => ?_) (fun _ => ?_) | refine And.intro (by omega) ?_ | fail)
      · refine (zRInt_c kr d l1 a.least a.most w4 hR4).mono ?_
        rintro _ w5 ⟨rfl, hR5, g5⟩
        have bA5 := bA.chg g5 (by simp; omega)
        have hM5 := hM4.chg g5 (by simp; omega) (by simp; omega)
        have f2 : w5.cell? ⟨ka, 2, none⟩ = some (.int .i64 a.least) := bA5.cell 2
        have f3 : w5.cell? ⟨ka, 3, none⟩ = some (.int .i64 a.most) := bA5.cell 3
        have hl5 := g5.later hl4 (by simpa using hkr)
        repeat' (first | (simp (disch := omega) only [push_cast, ↓reduceIte, Nat.reduceEqDiff, Int.reduceToNat, Nat.reducePow, Int.reducePow, Int.reduceNeg, Nat.reduceMul, Int.reduceMul, Int.reduceAdd, Int.reduceSub, Nat.reduceAdd, Nat.reduceSub, Nat.reduceLeDiff, Int.reduceLT, Int.reduceLE, Int.reduceEq, Int.reduceMod, Int.reduceDiv, reduceCtorEq, f2, f3, addr_add_eq, Nat.zero_add]) | refine vIfE_of (fun _ => ?_) (fun _ => ?_) | refine vIfD_of (fun _ => ?_) (fun _ => ?_) | refine vIfQ_of (fun _ => ?_) (fun _ => ?_) | refine vIfV_of (fun _ => ?_) (fun _ => ?_) | refine And.intro (by omega) ?_ | fail)
        refine (rRInt_c km d0 l j bad a.least a.most w5 hM5 hj (by omega)).mono ?_
        rintro _ w6 ⟨rfl, j', bad', hM6, hj', hlj', g6⟩
        have hR6 := hR5.chg g6 (by simp; omega) (by simp; omega)
        have hl6 := g6.later hl5 (by simpa using hkm)
        rw [hlj] at hlj' ⊢
        repeat' (first | (simp (disch := omega) only [push_cast, ↓reduceIte, Nat.reduceEqDiff, Int.reduceToNat, Nat.reducePow, Int.reducePow, Int.reduceNeg, Nat.reduceMul, Int.reduceMul, Int.reduceAdd, Int.reduceSub, Nat.reduceAdd, Nat.reduceSub, Nat.reduceLeDiff, Int.reduceLT, Int.reduceLE, Int.reduceEq, Int.reduceMod, Int.reduceDiv, reduceCtorEq]) | refine vIfE_of (fun _ => ?_) (fun _ => ?_) | refine vIfD_of (fun _ => ?_) (fun _ => ?_) | refine vIfQ_of (fun _ => ?_) (fun _ => ?_) | refine vIfV_of (fun _ => ?_) (fun _ => ?_) | refine And.intro (by omega) ?_ | fail)
        have hlen : (rI l1 a.least a.most).2.2.length = l.length - j' := by rw [← hlj', List.length_drop]
        obtain ⟨oz, cz, z0, z1, z2, zfz, zs, zin, znc, zm⟩ := hM6.cells
        repeat' (first | (simp (disch := omega) only [push_cast, ↓reduceIte, Nat.reduceEqDiff, Int.reduceToNat, Nat.reducePow, Int.reducePow, Int.reduceNeg, Nat.reduceMul, Int.reduceMul, Int.reduceAdd, Int.reduceSub, Nat.reduceAdd, Nat.reduceSub, Nat.reduceLeDiff, Int.reduceLT, Int.reduceLE, Int.reduceEq, Int.reduceMod, Int.reduceDiv, reduceCtorEq, z0, z1, z2, addr_add_eq, Nat.zero_add]) | refine vIfE_of (fun _ => ?_) (fun _ => ?_) | refine vIfD_of (fun _ => ?_) (fun _ => ?_) | refine vIfQ_of (fun _ => ?_) (fun _ => ?_) | refine vIfV_of (fun _ => ?_) (fun _ => ?_) | refine And.intro (by omega) ?_ | fail)
        refine QFn.of hb41 (v := .int .i64 (rI l1 a.least a.most).2.2.length) (fun w' hl' => (zRLeft_c kr d (rI l1 a.least a.most).2.2 w' (hR6.chg (Chg.of_later (ks := []) hl') (by simp) (by simp))).mono fun _ _ h => ⟨h.1, h.2 ▸ Later.refl _⟩) ?_
        repeat' (first | (simp (disch := omega) only [push_cast, ↓reduceIte, Nat.reduceEqDiff, Int.reduceToNat, Nat.reducePow, Int.reducePow, Int.reduceNeg, Nat.reduceMul, Int.reduceMul, Int.reduceAdd, Int.reduceSub, Nat.reduceAdd, Nat.reduceSub, Nat.reduceLeDiff, Int.reduceLT, Int.reduceLE, Int.reduceEq, Int.reduceMod, Int.reduceDiv, reduceCtorEq, z0, z1, z2, addr_add_eq, Nat.zero_add]) | refine vIfE_of (fun _ => ?_) (fun _ => ?_) | refine vIfD_of (fun _ => ?_) (fun _ => ?_) | refine vIfQ_of (fun _ => ?_) (fun _ => ?_) | refine vIfV_of (fun _ => ?_) (fun _ => ?_) | refine And.intro (by omega) ?_ | fail)
        intro w9 hl9
        repeat' (first | (simp (disch := omega) only [push_cast, ↓reduceIte, Nat.reduceEqDiff, Int.reduceToNat, Nat.reducePow, Int.reducePow, Int.reduceNeg, Nat.reduceMul, Int.reduceMul, Int.reduceAdd, Int.reduceSub, Nat.reduceAdd, Nat.reduceSub, Nat.reduceLeDiff, Int.reduceLT, Int.reduceLE, Int.reduceEq, Int.reduceMod, Int.reduceDiv, reduceCtorEq]) | refine vIfE_of (fun _ => ?_) (fun _ => ?_) | refine vIfD_of (fun _ => ?_) (fun _ => ?_) | refine vIfQ_of (fun _ => ?_) (fun _ => ?_) | refine vIfV_of (fun _ => ?_) (fun _ => ?_) | refine And.intro (by omega) ?_ | fail)
        have RR9 := hR6.chg (Chg.of_later (ks := []) hl9) (by simp) (by simp)
        have MM9 := hM6.chg (Chg.of_later (ks := []) hl9) (by simp) (by simp)
        refine ⟨rfl, i + 1, by simp (disch := omega) only [push_cast, ↓reduceIte, Nat.reduceEqDiff, Int.reduceToNat, Nat.reducePow, Int.reducePow, Int.reduceNeg, Nat.reduceMul, Int.reduceMul, Int.reduceAdd, Int.reduceSub, Nat.reduceAdd, Nat.reduceSub, Nat.reduceLeDiff, Int.reduceLT, Int.reduceLE, Int.reduceEq, Int.reduceMod, Int.reduceDiv, reduceCtorEq], ⟨by omega, hl6.trans hl9, (rI l1 a.least a.most).2.2, j', _, RR9, MM9, hj', hlj'⟩, by show 60 - (i + 1) < 60 - i; omega⟩
      · refine (zRText_c kr d l1 a.most w4 hR4).mono ?_
        rintro _ w5 ⟨rfl, hR5, g5⟩
        have bA5 := bA.chg g5 (by simp; omega)
        have hM5 := hM4.chg g5 (by simp; omega) (by simp; omega)
        have f3 : w5.cell? ⟨ka, 3, none⟩ = some (.int .i64 a.most) := bA5.cell 3
        have hl5 := g5.later hl4 (by simpa using hkr)
        repeat' (first | (simp (disch := omega) only [push_cast, ↓reduceIte, Nat.reduceEqDiff, Int.reduceToNat, Nat.reducePow, Int.reducePow, Int.reduceNeg, Nat.reduceMul, Int.reduceMul, Int.reduceAdd, Int.reduceSub, Nat.reduceAdd, Nat.reduceSub, Nat.reduceLeDiff, Int.reduceLT, Int.reduceLE, Int.reduceEq, Int.reduceMod, Int.reduceDiv, reduceCtorEq, f3, addr_add_eq, Nat.zero_add]) | refine vIfE_of (fun _ => ?_) (fun _ => ?_) | refine vIfD_of (fun _ => ?_) (fun _ => ?_) | refine vIfQ_of (fun _ => ?_) (fun _ => ?_) | refine vIfV_of (fun _ => ?_) (fun _ => ?_) | refine And.intro (by omega) ?_ | fail)
        refine (rRText_c km d0 l j bad a.most w5 hM5 hj (by omega)).mono ?_
        rintro _ w6 ⟨rfl, j', bad', hM6, hj', hlj', g6⟩
        have hR6 := hR5.chg g6 (by simp; omega) (by simp; omega)
        have hl6 := g6.later hl5 (by simpa using hkm)
        rw [hlj] at hlj' ⊢
        repeat' (first | (simp (disch := omega) only [push_cast, ↓reduceIte, Nat.reduceEqDiff, Int.reduceToNat, Nat.reducePow, Int.reducePow, Int.reduceNeg, Nat.reduceMul, Int.reduceMul, Int.reduceAdd, Int.reduceSub, Nat.reduceAdd, Nat.reduceSub, Nat.reduceLeDiff, Int.reduceLT, Int.reduceLE, Int.reduceEq, Int.reduceMod, Int.reduceDiv, reduceCtorEq]) | refine vIfE_of (fun _ => ?_) (fun _ => ?_) | refine vIfD_of (fun _ => ?_) (fun _ => ?_) | refine vIfQ_of (fun _ => ?_) (fun _ => ?_) | refine vIfV_of (fun _ => ?_) (fun _ => ?_) | refine And.intro (by omega) ?_ | fail)
        have hlen : (rT l1 a.most).2.2.length = l.length - j' := by rw [← hlj', List.length_drop]
        obtain ⟨oz, cz, z0, z1, z2, zfz, zs, zin, znc, zm⟩ := hM6.cells
        repeat' (first | (simp (disch := omega) only [push_cast, ↓reduceIte, Nat.reduceEqDiff, Int.reduceToNat, Nat.reducePow, Int.reducePow, Int.reduceNeg, Nat.reduceMul, Int.reduceMul, Int.reduceAdd, Int.reduceSub, Nat.reduceAdd, Nat.reduceSub, Nat.reduceLeDiff, Int.reduceLT, Int.reduceLE, Int.reduceEq, Int.reduceMod, Int.reduceDiv, reduceCtorEq, z0, z1, z2, addr_add_eq, Nat.zero_add]) | refine vIfE_of (fun _ => ?_) (fun _ => ?_) | refine vIfD_of (fun _ => ?_) (fun _ => ?_) | refine vIfQ_of (fun _ => ?_) (fun _ => ?_) | refine vIfV_of (fun _ => ?_) (fun _ => ?_) | refine And.intro (by omega) ?_ | fail)
        refine QFn.of hb41 (v := .int .i64 (rT l1 a.most).2.2.length) (fun w' hl' => (zRLeft_c kr d (rT l1 a.most).2.2 w' (hR6.chg (Chg.of_later (ks := []) hl') (by simp) (by simp))).mono fun _ _ h => ⟨h.1, h.2 ▸ Later.refl _⟩) ?_
        repeat' (first | (simp (disch := omega) only [push_cast, ↓reduceIte, Nat.reduceEqDiff, Int.reduceToNat, Nat.reducePow, Int.reducePow, Int.reduceNeg, Nat.reduceMul, Int.reduceMul, Int.reduceAdd, Int.reduceSub, Nat.reduceAdd, Nat.reduceSub, Nat.reduceLeDiff, Int.reduceLT, Int.reduceLE, Int.reduceEq, Int.reduceMod, Int.reduceDiv, reduceCtorEq, z0, z1, z2, addr_add_eq, Nat.zero_add]) | refine vIfE_of (fun _ => ?_) (fun _ => ?_) | refine vIfD_of (fun _ => ?_) (fun _ => ?_) | refine vIfQ_of (fun _ => ?_) (fun _ => ?_) | refine vIfV_of (fun _ => ?_) (fun _ => ?_) | refine And.intro (by omega) ?_ | fail)
        intro w9 hl9
        repeat' (first | (simp (disch := omega) only [push_cast, ↓reduceIte, Nat.reduceEqDiff, Int.reduceToNat, Nat.reducePow, Int.reducePow, Int.reduceNeg, Nat.reduceMul, Int.reduceMul, Int.reduceAdd, Int.reduceSub, Nat.reduceAdd, Nat.reduceSub, Nat.reduceLeDiff, Int.reduceLT, Int.reduceLE, Int.reduceEq, Int.reduceMod, Int.reduceDiv, reduceCtorEq]) | refine vIfE_of (fun _ => ?_) (fun _ => ?_) | refine vIfD_of (fun _ => ?_) (fun _ => ?_) | refine vIfQ_of (fun _ => ?_) (fun _ => ?_) | refine vIfV_of (fun _ => ?_) (fun _ => ?_) | refine And.intro (by omega) ?_ | fail)
        have RR9 := hR6.chg (Chg.of_later (ks := []) hl9) (by simp) (by simp)
        have MM9 := hM6.chg (Chg.of_later (ks := []) hl9) (by simp) (by simp)
        refine ⟨rfl, i + 1, by simp (disch := omega) only [push_cast, ↓reduceIte, Nat.reduceEqDiff, Int.reduceToNat, Nat.reducePow, Int.reducePow, Int.reduceNeg, Nat.reduceMul, Int.reduceMul, Int.reduceAdd, Int.reduceSub, Nat.reduceAdd, Nat.reduceSub, Nat.reduceLeDiff, Int.reduceLT, Int.reduceLE, Int.reduceEq, Int.reduceMod, Int.reduceDiv, reduceCtorEq], ⟨by omega, hl6.trans hl9, (rT l1 a.most).2.2, j', _, RR9, MM9, hj', hlj'⟩, by show 60 - (i + 1) < 60 - i; omega⟩
      · have hl1l : l1.length ≤ 400 := by rw [← hlj, List.length_drop]; omega
        refine (zRBytes_c kr d l1 a.n w4 hR4 (by omega)).mono ?_
        rintro _ w5 ⟨y, rfl, hy, hR5, g5⟩
        have bA5 := bA.chg g5 (by simp; omega)
        have hM5 := hM4.chg g5 (by simp; omega) (by simp; omega)
        have f1 : w5.cell? ⟨ka, 1, none⟩ = some (.int .i64 a.n) := bA5.cell 1
        have hl5 := g5.later hl4 (by simpa using hkr)
        repeat' (first | (simp (disch := omega) only [push_cast, ↓reduceIte, Nat.reduceEqDiff, Int.reduceToNat, Nat.reducePow, Int.reducePow, Int.reduceNeg, Nat.reduceMul, Int.reduceMul, Int.reduceAdd, Int.reduceSub, Nat.reduceAdd, Nat.reduceSub, Nat.reduceLeDiff, Int.reduceLT, Int.reduceLE, Int.reduceEq, Int.reduceMod, Int.reduceDiv, reduceCtorEq, f1, addr_add_eq, Nat.zero_add]) | refine vIfE_of (fun _ => ?_) (fun _ => ?_) | refine vIfD_of (fun _ => ?_) (fun _ => ?_) | refine vIfQ_of (fun _ => ?_) (fun _ => ?_) | refine vIfV_of (fun _ => ?_) (fun _ => ?_) | refine And.intro (by omega) ?_ | fail)
        refine (rRBytes_c km d0 l j bad a.n w5 hM5 hj (by omega)).mono ?_
        rintro _ w6 ⟨y2, rfl, hy2, hin2, j', bad', hM6, hj', hlj', g6⟩
        have hR6 := hR5.chg g6 (by simp; omega) (by simp; omega)
        have hl6 := g6.later hl5 (by simpa using hkm)
        rw [hlj] at hlj' hy2 ⊢
        have hkd : km < w4.heap.size := by obtain ⟨_, _, _, _, _, _, _, h⟩ := hM4; exact h
        have hy6 : Sl w6 y ((rB l1 a.n).1.map u8v) := OwnB.sl (own_chg hy g6 (by simp; omega))
        obtain ⟨oy, cy, rfl⟩ := hy6.slice
        obtain ⟨oy2, cy2, rfl⟩ := hy2.slice
        repeat' (first | (simp (disch := omega) only [push_cast, ↓reduceIte, Nat.reduceEqDiff, Int.reduceToNat, Nat.reducePow, Int.reducePow, Int.reduceNeg, Nat.reduceMul, Int.reduceMul, Int.reduceAdd, Int.reduceSub, Nat.reduceAdd, Nat.reduceSub, Nat.reduceLeDiff, Int.reduceLT, Int.reduceLE, Int.reduceEq, Int.reduceMod, Int.reduceDiv, reduceCtorEq]) | refine vIfE_of (fun _ => ?_) (fun _ => ?_) | refine vIfD_of (fun _ => ?_) (fun _ => ?_) | refine vIfQ_of (fun _ => ?_) (fun _ => ?_) | refine vIfV_of (fun _ => ?_) (fun _ => ?_) | refine And.intro (by omega) ?_ | fail)
        refine vConv_bytes Try.underlying40 Try.underlying9 Try.underlying5 hy6 ?_
        repeat' (first | (simp (disch := omega) only [push_cast, ↓reduceIte, Nat.reduceEqDiff, Int.reduceToNat, Nat.reducePow, Int.reducePow, Int.reduceNeg, Nat.reduceMul, Int.reduceMul, Int.reduceAdd, Int.reduceSub, Nat.reduceAdd, Nat.reduceSub, Nat.reduceLeDiff, Int.reduceLT, Int.reduceLE, Int.reduceEq, Int.reduceMod, Int.reduceDiv, reduceCtorEq]) | refine vIfE_of (fun _ => ?_) (fun _ => ?_) | refine vIfD_of (fun _ => ?_) (fun _ => ?_) | refine vIfQ_of (fun _ => ?_) (fun _ => ?_) | refine vIfV_of (fun _ => ?_) (fun _ => ?_) | refine And.intro (by omega) ?_ | fail)
        refine vConv_bytes Try.underlying40 Try.underlying9 Try.underlying5 hy2 ?_
        repeat' (first | (simp (disch := omega) only [push_cast, ↓reduceIte, Nat.reduceEqDiff, Int.reduceToNat, Nat.reducePow, Int.reducePow, Int.reduceNeg, Nat.reduceMul, Int.reduceMul, Int.reduceAdd, Int.reduceSub, Nat.reduceAdd, Nat.reduceSub, Nat.reduceLeDiff, Int.reduceLT, Int.reduceLE, Int.reduceEq, Int.reduceMod, Int.reduceDiv, reduceCtorEq]) | refine vIfE_of (fun _ => ?_) (fun _ => ?_) | refine vIfD_of (fun _ => ?_) (fun _ => ?_) | refine vIfQ_of (fun _ => ?_) (fun _ => ?_) | refine vIfV_of (fun _ => ?_) (fun _ => ?_) | refine And.intro (by omega) ?_ | fail)
        have hlen : (rB l1 a.n).2.2.length = l.length - j' := by rw [← hlj', List.length_drop]
        obtain ⟨oz, cz, z0, z1, z2, zfz, zs, zin, znc, zm⟩ := hM6.cells
        repeat' (first | (simp (disch := omega) only [push_cast, ↓reduceIte, Nat.reduceEqDiff, Int.reduceToNat, Nat.reducePow, Int.reducePow, Int.reduceNeg, Nat.reduceMul, Int.reduceMul, Int.reduceAdd, Int.reduceSub, Nat.reduceAdd, Nat.reduceSub, Nat.reduceLeDiff, Int.reduceLT, Int.reduceLE, Int.reduceEq, Int.reduceMod, Int.reduceDiv, reduceCtorEq, z0, z1, z2, addr_add_eq, Nat.zero_add]) | refine vIfE_of (fun _ => ?_) (fun _ => ?_) | refine vIfD_of (fun _ => ?_) (fun _ => ?_) | refine vIfQ_of (fun _ => ?_) (fun _ => ?_) | refine vIfV_of (fun _ => ?_) (fun _ => ?_) | refine And.intro (by omega) ?_ | fail)
        refine QFn.of hb41 (v := .int .i64 (rB l1 a.n).2.2.length) (fun w' hl' => (zRLeft_c kr d (rB l1 a.n).2.2 w' (hR6.chg (Chg.of_later (ks := []) hl') (by simp) (by simp))).mono fun _ _ h => ⟨h.1, h.2 ▸ Later.refl _⟩) ?_
        repeat' (first | (simp (disch := omega) only [push_cast, ↓reduceIte, Nat.reduceEqDiff, Int.reduceToNat, Nat.reducePow, Int.reducePow, Int.reduceNeg, Nat.reduceMul, Int.reduceMul, Int.reduceAdd, Int.reduceSub, Nat.reduceAdd, Nat.reduceSub, Nat.reduceLeDiff, Int.reduceLT, Int.reduceLE, Int.reduceEq, Int.reduceMod, Int.reduceDiv, reduceCtorEq, z0, z1, z2, addr_add_eq, Nat.zero_add]) | refine vIfE_of (fun _ => ?_) (fun _ => ?_) | refine vIfD_of (fun _ => ?_) (fun _ => ?_) | refine vIfQ_of (fun _ => ?_) (fun _ => ?_) | refine vIfV_of (fun _ => ?_) (fun _ => ?_) | refine And.intro (by omega) ?_ | fail)
        intro w9 hl9
        repeat' (first | (simp (disch := omega) only [push_cast, ↓reduceIte, Nat.reduceEqDiff, Int.reduceToNat, Nat.reducePow, Int.reducePow, Int.reduceNeg, Nat.reduceMul, Int.reduceMul, Int.reduceAdd, Int.reduceSub, Nat.reduceAdd, Nat.reduceSub, Nat.reduceLeDiff, Int.reduceLT, Int.reduceLE, Int.reduceEq, Int.reduceMod, Int.reduceDiv, reduceCtorEq]) | refine vIfE_of (fun _ => ?_) (fun _ => ?_) | refine vIfD_of (fun _ => ?_) (fun _ => ?_) | refine vIfQ_of (fun _ => ?_) (fun _ => ?_) | refine vIfV_of (fun _ => ?_) (fun _ => ?_) | refine And.intro (by omega) ?_ | fail)
        have RR9 := hR6.chg (Chg.of_later (ks := []) hl9) (by simp) (by simp)
        have MM9 := hM6.chg (Chg.of_later (ks := []) hl9) (by simp) (by simp)
        refine ⟨rfl, i + 1, by simp (disch := omega) only [push_cast, ↓reduceIte, Nat.reduceEqDiff, Int.reduceToNat, Nat.reducePow, Int.reducePow, Int.reduceNeg, Nat.reduceMul, Int.reduceMul, Int.reduceAdd, Int.reduceSub, Nat.reduceAdd, Nat.reduceSub, Nat.reduceLeDiff, Int.reduceLT, Int.reduceLE, Int.reduceEq, Int.reduceMod, Int.reduceDiv, reduceCtorEq], ⟨by omega, hl6.trans hl9, (rB l1 a.n).2.2, j', _, RR9, MM9, hj', hlj'⟩, by show 60 - (i + 1) < 60 - i; omega⟩
      · skip
        have hlen : l1.length = l.length - j := by rw [← hlj, List.length_drop]
        obtain ⟨oz, cz, z0, z1, z2, zfz, zs, zin, znc, zm⟩ := hM4.cells
        repeat' (first | (simp (disch := omega) only [push_cast, ↓reduceIte, Nat.reduceEqDiff, Int.reduceToNat, Nat.reducePow, Int.reducePow, Int.reduceNeg, Nat.reduceMul, Int.reduceMul, Int.reduceAdd, Int.reduceSub, Nat.reduceAdd, Nat.reduceSub, Nat.reduceLeDiff, Int.reduceLT, Int.reduceLE, Int.reduceEq, Int.reduceMod, Int.reduceDiv, reduceCtorEq, z0, z1, z2, addr_add_eq, Nat.zero_add]) | refine vIfE_of (fun _ => ?_) (fun _ => ?_) | refine vIfD_of (fun _ => ?_) (fun _ => ?_) | refine vIfQ_of (fun _ => ?_) (fun _ => ?_) | refine vIfV_of (fun _ => ?_) (fun _ => ?_) | refine And.intro (by omega) ?_ | fail)
        refine QFn.of hb41 (v := .int .i64 l1.length) (fun w' hl' => (zRLeft_c kr d l1 w' (hR4.chg (Chg.of_later (ks := []) hl') (by simp) (by simp))).mono fun _ _ h => ⟨h.1, h.2 ▸ Later.refl _⟩) ?_
        repeat' (first | (simp (disch := omega) only [push_cast, ↓reduceIte, Nat.reduceEqDiff, Int.reduceToNat, Nat.reducePow, Int.reducePow, Int.reduceNeg, Nat.reduceMul, Int.reduceMul, Int.reduceAdd, Int.reduceSub, Nat.reduceAdd, Nat.reduceSub, Nat.reduceLeDiff, Int.reduceLT, Int.reduceLE, Int.reduceEq, Int.reduceMod, Int.reduceDiv, reduceCtorEq, z0, z1, z2, addr_add_eq, Nat.zero_add]) | refine vIfE_of (fun _ => ?_) (fun _ => ?_) | refine vIfD_of (fun _ => ?_) (fun _ => ?_) | refine vIfQ_of (fun _ => ?_) (fun _ => ?_) | refine vIfV_of (fun _ => ?_) (fun _ => ?_) | refine And.intro (by omega) ?_ | fail)
        intro w9 hl9
        repeat' (first | (simp (disch := omega) only [push_cast, ↓reduceIte, Nat.reduceEqDiff, Int.reduceToNat, Nat.reducePow, Int.reducePow, Int.reduceNeg, Nat.reduceMul, Int.reduceMul, Int.reduceAdd, Int.reduceSub, Nat.reduceAdd, Nat.reduceSub, Nat.reduceLeDiff, Int.reduceLT, Int.reduceLE, Int.reduceEq, Int.reduceMod, Int.reduceDiv, reduceCtorEq]) | refine vIfE_of (fun _ => ?_) (fun _ => ?_) | refine vIfD_of (fun _ => ?_) (fun _ => ?_) | refine vIfQ_of (fun _ => ?_) (fun _ => ?_) | refine vIfV_of (fun _ => ?_) (fun _ => ?_) | refine And.intro (by omega) ?_ | fail)
        have RR9 := hR4.chg (Chg.of_later (ks := []) hl9) (by simp) (by simp)
        have MM9 := hM4.chg (Chg.of_later (ks := []) hl9) (by simp) (by simp)
        refine ⟨rfl, i + 1, by simp (disch := omega) only [push_cast, ↓reduceIte, Nat.reduceEqDiff, Int.reduceToNat, Nat.reducePow, Int.reducePow, Int.reduceNeg, Nat.reduceMul, Int.reduceMul, Int.reduceAdd, Int.reduceSub, Nat.reduceAdd, Nat.reduceSub, Nat.reduceLeDiff, Int.reduceLT, Int.reduceLE, Int.reduceEq, Int.reduceMod, Int.reduceDiv, reduceCtorEq], ⟨by omega, hl4.trans hl9, l1, j, _, RR9, MM9, hj, hlj⟩, by show 60 - (i + 1) < 60 - i; omega⟩
    · refine (alive_c w3).mono ?_
      rintro _ w4 ⟨rfl, hl4⟩
      repeat' (first | (simp (disch := omega) only [push_cast, ↓reduceIte, Nat.reduceEqDiff, Int.reduceToNat, Nat.reducePow, Int.reducePow, Int.reduceNeg, Nat.reduceMul, Int.reduceMul, Int.reduceAdd, Int.reduceSub, Nat.reduceAdd, Nat.reduceSub, Nat.reduceLeDiff, Int.reduceLT, Int.reduceLE, Int.reduceEq, Int.reduceMod, Int.reduceDiv, reduceCtorEq]) | refine vIfE_of (fun _ => ?_) (fun _ => ?_) | refine vIfD_of (fun _ => ?_) (fun _ => ?_) | refine vIfQ_of (fun _ => ?_) (fun _ => ?_) | refine vIfV_of (fun _ => ?_) (fun _ => ?_) | refine And.intro (by omega) ?_ | fail)
      exact hl3.trans hl4
    · refine (alive_c w3).mono ?_
      rintro _ w4 ⟨rfl, hl4⟩
      repeat' (first | (simp (disch := omega) only [push_cast, ↓reduceIte, Nat.reduceEqDiff, Int.reduceToNat, Nat.reducePow, Int.reducePow, Int.reduceNeg, Nat.reduceMul, Int.reduceMul, Int.reduceAdd, Int.reduceSub, Nat.reduceAdd, Nat.reduceSub, Nat.reduceLeDiff, Int.reduceLT, Int.reduceLE, Int.reduceEq, Int.reduceMod, Int.reduceDiv, reduceCtorEq]) | refine vIfE_of (fun _ => ?_) (fun _ => ?_) | refine vIfD_of (fun _ => ?_) (fun _ => ?_) | refine vIfQ_of (fun _ => ?_) (fun _ => ?_) | refine vIfV_of (fun _ => ?_) (fun _ => ?_) | refine And.intro (by omega) ?_ | fail)
      exact hl3.trans hl4
theorem own : ownKnob Try.prog.godebug = none := by kernel_rfl
theorem lifted (os : Os) (started : os.Started) (H : Type) (enc : TypeId × Value → H) :
    ReturnsInHanded {} Try.checked os 13 .any (Rows.zigReadsSpec.pre6 enc Try.prog Try.f13 Rows.zigReadsRow.domain false) (Rows.zigReadsSpec.post enc Try.prog Try.f13 false true false false) := by
  refine lifted_later (C := Try.checked) own started (by kernel_rfl) Try.func13 hb13
    (ChangeSpec.witness6 (enc := enc) (C := Try.checked) false ⟨#[], #[.slice none 0 0, .slice none 0 0], []⟩ 13 (by kernel_rfl) (by kernel_rfl) (by kernel_rfl) (by kernel_rfl))
    (by kernel_rfl) (list_all (by kernel_rfl)) (by kernel_rfl) Try.underlying4 rfl ?_ ?_
  · intro ds h
    have h : ds.length = 2 := h
    match ds, h with
    | [_, _], _ => rfl
  · intro W base args ds p hval0 hA0
    have hval : ∀ (j : Nat) t v, Try.f13.params[j]? = some t → args[j]? = some v → Value.okWide Try.prog W .any base t v := hval0
    have hA : DataW.TrodAll enc Try.prog W 0 (fun _ => true) true Try.f13.params.toList args.toList ds p := hA0
    rw [Try.params13] at hA hval
    obtain ⟨v0, vs0, d0, ds0, p0, q0, hargs, rfl, rfl, h0, r0⟩ := trodAll_cons hA
    obtain ⟨v1, vs1, d1, ds1, p1, q1, rfl, rfl, rfl, h1, r1⟩ := trodAll_cons r0
    obtain ⟨rfl, rfl, rfl⟩ := trodAll_nil r1
    obtain rfl : args = #[v0, v1] := by cases args; simp_all
    obtain ⟨a0, w0⟩ := open_u8s Try.underlying40 Try.underlying5 (by kernel_rfl) (hval 0 40 v0 rfl rfl) h0
    obtain ⟨a1, w1⟩ := open_acts (hval 1 39 v1 rfl rfl) h1
    exact law_c v0 a0 v1 a1 W w0 w1.1 w1.2
theorem over : Rows.zigReadsRow.holds Try.pinned (OpenSpec.ofChange Rows.zigReadsSpec) :=
  OpenClaim.holds_of_wide 13 Try.f13 rfl rfl rfl rfl rfl rfl rfl ⟨rfl, rfl, rfl, rfl, rfl⟩ rfl rfl rfl rfl rfl (by kernel_rfl) Try.func13 (by kernel_rfl)
    (of_decide_eq_true (by kernel_rfl)) (by unfold Func.isWrapper; first | (rw [if_pos (by decide +kernel)]; kernel_rfl) | (rw [if_neg (by decide +kernel)]; exact ⟨rfl, rfl⟩))
    (fun os started H enc _ => lifted os started H enc)
/-- The statement. -/
theorem proved : Rows.ZigReadsSaid :=
  over
end Go.Proofs.Ytgomibebepmlhaa.zigReads
