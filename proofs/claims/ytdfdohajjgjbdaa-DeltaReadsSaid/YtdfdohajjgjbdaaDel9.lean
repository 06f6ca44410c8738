/- The contract of the document's Decode. -/
import Derived.Test.YtdfdohajjgjbdaaDel7
import Derived.Test.YtdfdohajjgjbdaaZig7
set_option linter.unusedSimpArgs false
namespace Go.Proofs.Ytdfdohajjgjbdaa
open Go.Vc Go.Del Go.Zig Go.Nib
/-! Reading, with what becomes of the mark. -/
def BadIs (b bad : Bool) (e : Int) : Prop := b = (bad || !decide (e = 0))
theorem rRIntB_c (k d : Nat) (l : List UInt8) (i : Nat) (bad : Bool) (least most : Int) (w : World) (h : Rm w k d l i bad) (hi : i ≤ l.length) (hl : l.length ≤ 140737488355000) :
    FnC Try.prog 75 #[pt k, .int .i64 least, .int .i64 most] w fun v w' => v = .tuple #[.int .i64 (rI (l.drop i) least most).1, .int .i64 (rI (l.drop i) least most).2.1] ∧
      ∃ j b, Rm w' k d l j b ∧ j ≤ l.length ∧ l.drop j = (rI (l.drop i) least most).2.2 ∧ Chg w w' [k] ∧ BadIs b bad (rI (l.drop i) least most).2.1 := by
  have h' := h
  obtain ⟨o, n, c, h1, h2, h3, h4, h5⟩ := h
  refine enter75 _ _ _ ?_
  unfold B75
  repeat' (first | (simp (disch := omega) only [push_cast, ↓reduceIte, Nat.reduceEqDiff, Int.reduceToNat, Nat.reducePow, Int.reducePow, Int.reduceNeg, Nat.reduceMul, Int.reduceMul, Int.reduceAdd, Int.reduceSub, Nat.reduceAdd, Nat.reduceSub, Nat.reduceLeDiff, Int.reduceLT, Int.reduceLE, Int.reduceEq, Int.reduceMod, Int.reduceDiv, reduceCtorEq, not_true_eq_false, not_false_eq_true]) | refine vIfE_of (fun _ => ?_) (fun _ => ?_) | refine vIfD_of (fun _ => ?_) (fun _ => ?_) | refine vIfQ_of (fun _ => ?_) (fun _ => ?_) | refine vIfV_of (fun _ => ?_) (fun _ => ?_) | refine And.intro (by omega) ?_ | refine drawn_q ?_ | fail)
  refine (zrNumber_c k d l i bad w h' hi hl).mono ?_
  rintro _ w1 ⟨rfl, hl1⟩
  have g1 : Chg w w1 [k] := Chg.of_later hl1
  have hR1 := h'.chg (Chg.of_later (ks := []) hl1) (by simp) (by simp)
  have b1 := h1.chg (Chg.of_later (ks := []) hl1) (by simp)
  have hc1 : w1.cell? ⟨k, 1, none⟩ = some (.int .i64 i) := b1.cell 1
  have hc2 : w1.cell? ⟨k, 2, none⟩ = some (.bool bad) := b1.cell 2
  unfold pt
  repeat' (first | (simp (disch := omega) only [push_cast, ↓reduceIte, Nat.reduceEqDiff, Int.reduceToNat, Nat.reducePow, Int.reducePow, Int.reduceNeg, Nat.reduceMul, Int.reduceMul, Int.reduceAdd, Int.reduceSub, Nat.reduceAdd, Nat.reduceSub, Nat.reduceLeDiff, Int.reduceLT, Int.reduceLE, Int.reduceEq, Int.reduceMod, Int.reduceDiv, reduceCtorEq, not_true_eq_false, not_false_eq_true]) | refine vIfE_of (fun _ => ?_) (fun _ => ?_) | refine vIfD_of (fun _ => ?_) (fun _ => ?_) | refine vIfQ_of (fun _ => ?_) (fun _ => ?_) | refine vIfV_of (fun _ => ?_) (fun _ => ?_) | refine And.intro (by omega) ?_ | refine drawn_q ?_ | fail)
  have hu : U64 (numV (l.drop i)).1 := by
    rcases num_numV (l := l.drop i) with ⟨e1, e2⟩ | ⟨u, m, e1, e2, e3, e4, e5⟩
    · rw [e2]; unfold U64; omega
    · rw [e2]; exact e3
  refine (rUnfold_c _ w1 hu).mono ?_
  rintro _ _ ⟨rfl, rfl⟩
  unfold rI
  rcases num_numV (l := l.drop i) with ⟨e1, e2⟩ | ⟨u, m, e1, e2, e3, e4, e5⟩
  · simp only [e1, e2]
    repeat' (first | (simp (disch := omega) only [push_cast, ↓reduceIte, Nat.reduceEqDiff, Int.reduceToNat, Nat.reducePow, Int.reducePow, Int.reduceNeg, Nat.reduceMul, Int.reduceMul, Int.reduceAdd, Int.reduceSub, Nat.reduceAdd, Nat.reduceSub, Nat.reduceLeDiff, Int.reduceLT, Int.reduceLE, Int.reduceEq, Int.reduceMod, Int.reduceDiv, reduceCtorEq, not_true_eq_false, not_false_eq_true, hc1, hc2, addr_add_eq, Nat.zero_add]) | refine vIfE_of (fun _ => ?_) (fun _ => ?_) | refine vIfD_of (fun _ => ?_) (fun _ => ?_) | refine vIfQ_of (fun _ => ?_) (fun _ => ?_) | refine vIfV_of (fun _ => ?_) (fun _ => ?_) | refine And.intro (by omega) ?_ | refine drawn_q ?_ | fail)
    exact ⟨b1.frozen 2, i, true, hR1.setBad true, hi, rfl, g1.set (by simp) _, by simp [BadIs]⟩
  · simp only [e1, e2]
    have hu := unfoldI_i64 e3
    unfold I64 at hu
    simp only [List.length_drop] at e5
    have eim : (i : Int) + (m : Int) = ((i + m : Nat) : Int) := by omega
    repeat' (first | (simp (disch := omega) only [push_cast, ↓reduceIte, Nat.reduceEqDiff, Int.reduceToNat, Nat.reducePow, Int.reducePow, Int.reduceNeg, Nat.reduceMul, Int.reduceMul, Int.reduceAdd, Int.reduceSub, Nat.reduceAdd, Nat.reduceSub, Nat.reduceLeDiff, Int.reduceLT, Int.reduceLE, Int.reduceEq, Int.reduceMod, Int.reduceDiv, reduceCtorEq, not_true_eq_false, not_false_eq_true, hc1, hc2, addr_add_eq, Nat.zero_add]) | refine vIfE_of (fun _ => ?_) (fun _ => ?_) | refine vIfD_of (fun _ => ?_) (fun _ => ?_) | refine vIfQ_of (fun _ => ?_) (fun _ => ?_) | refine vIfV_of (fun _ => ?_) (fun _ => ?_) | refine And.intro (by omega) ?_ | refine drawn_q ?_ | fail)
    · rw [if_pos (by omega)]; exact ⟨b1.frozen 2, rfl, i, true, hR1.setBad true, hi, rfl, g1.set (by simp) _, by simp [BadIs]⟩
    · rw [if_neg (by omega), eim]; exact ⟨b1.frozen 1, rfl, i + m, bad, hR1.setI (i + m), by omega, by simp, g1.set (by simp) _, by simp [BadIs]⟩
    · rw [if_pos (by omega)]; exact ⟨b1.frozen 2, rfl, i, true, hR1.setBad true, hi, rfl, g1.set (by simp) _, by simp [BadIs]⟩
theorem rRBytesB_c (k d : Nat) (l : List UInt8) (i : Nat) (bad : Bool) (x : Int) (w : World) (h : Rm w k d l i bad) (hi : i ≤ l.length) (hl : l.length ≤ 140737488355000) :
    FnC Try.prog 59 #[pt k, .int .i64 x] w fun v w' => ∃ y, v = .tuple #[y, .int .i64 (rB (l.drop i) x).2.1] ∧ Sl w' y ((rB (l.drop i) x).1.map u8v) ∧ inB d y ∧
      ∃ j b, Rm w' k d l j b ∧ j ≤ l.length ∧ l.drop j = (rB (l.drop i) x).2.2 ∧ Chg w w' [k] ∧ BadIs b bad (rB (l.drop i) x).2.1 := by
  obtain ⟨o, c, hc0, hc1, hc2, hfz, hs, hin, hnc, hm⟩ := h.cells
  refine enter59 _ _ ?_
  unfold B59
  unfold pt
  have bad' : ∀ w2, Later w w2 → (x < 0 ∨ (l.length : Int) - i < x) → (∃ y, w2.cell? ⟨k, 2, none⟩ = some y) ∧ w2.frozen? ⟨k, 2, none⟩ = false ∧
      ∃ y, Value.tuple #[.slice none 0 0, .int .i64 11] = .tuple #[y, .int .i64 (rB (l.drop i) x).2.1] ∧ Sl (w2.setCell ⟨k, 2, none⟩ (.bool true)) y ((rB (l.drop i) x).1.map u8v) ∧ inB d y ∧
      ∃ j b, Rm (w2.setCell ⟨k, 2, none⟩ (.bool true)) k d l j b ∧ j ≤ l.length ∧ l.drop j = (rB (l.drop i) x).2.2 ∧ Chg w (w2.setCell ⟨k, 2, none⟩ (.bool true)) [k] ∧ BadIs b bad (rB (l.drop i) x).2.1 := by
    intro w2 hl2 hx
    have hR2 := h.chg (Chg.of_later (ks := []) hl2) (by simp) (by simp)
    obtain ⟨o2, c2, m0, m1, m2, mfz, ms, min, mnc, mm⟩ := hR2.cells
    unfold rB
    rw [if_pos (by simp; omega)]
    exact ⟨⟨_, m2⟩, mfz 2, .slice none 0 0, rfl, Sl.nil _, trivial, i, true, hR2.setBad true, hi, rfl, (Chg.of_later hl2).set (by simp) _, by simp [BadIs]⟩
  repeat' (first | (simp (disch := omega) only [push_cast, ↓reduceIte, Nat.reduceEqDiff, Int.reduceToNat, Nat.reducePow, Int.reducePow, Int.reduceNeg, Nat.reduceMul, Int.reduceMul, Int.reduceAdd, Int.reduceSub, Nat.reduceAdd, Nat.reduceSub, Nat.reduceLeDiff, Int.reduceLT, Int.reduceLE, Int.reduceEq, Int.reduceMod, Int.reduceDiv, reduceCtorEq, not_true_eq_false, not_false_eq_true, hc0, hc1, hc2, addr_add_eq, Nat.zero_add]) | refine vIfE_of (fun _ => ?_) (fun _ => ?_) | refine vIfD_of (fun _ => ?_) (fun _ => ?_) | refine vIfQ_of (fun _ => ?_) (fun _ => ?_) | refine vIfV_of (fun _ => ?_) (fun _ => ?_) | refine And.intro (by omega) ?_ | refine drawn_q ?_ | fail)
  · intro w2 hl2
    have g2 : Chg w w2 [k] := Chg.of_later hl2
    have hR2 := h.chg (Chg.of_later (ks := []) hl2) (by simp) (by simp)
    obtain ⟨o2, c2, m0, m1, m2, mfz, ms, min, mnc, mm⟩ := hR2.cells
    repeat' (first | (simp (disch := omega) only [push_cast, ↓reduceIte, Nat.reduceEqDiff, Int.reduceToNat, Nat.reducePow, Int.reducePow, Int.reduceNeg, Nat.reduceMul, Int.reduceMul, Int.reduceAdd, Int.reduceSub, Nat.reduceAdd, Nat.reduceSub, Nat.reduceLeDiff, Int.reduceLT, Int.reduceLE, Int.reduceEq, Int.reduceMod, Int.reduceDiv, reduceCtorEq, not_true_eq_false, not_false_eq_true, m0, m1, m2, addr_add_eq, Nat.zero_add]) | refine vIfE_of (fun _ => ?_) (fun _ => ?_) | refine vIfD_of (fun _ => ?_) (fun _ => ?_) | refine vIfQ_of (fun _ => ?_) (fun _ => ?_) | refine vIfV_of (fun _ => ?_) (fun _ => ?_) | refine And.intro (by omega) ?_ | refine drawn_q ?_ | fail)
    · exact (bad' w2 hl2 (by omega)).2
    · have jv : (i : Int) + x = ((i + x.toNat : Nat) : Int) := by omega
      rw [jv]
      refine ⟨mfz 1, ?_⟩
      have hR3 := hR2.setI (i + x.toNat)
      have g3 := g2.set (k := k) (i := 1) (by simp) (.int .i64 ((i + x.toNat : Nat) : Int))
      generalize w2.setCell ⟨k, 1, none⟩ (.int .i64 ((i + x.toNat : Nat) : Int)) = w3 at *
      obtain ⟨o3, c3, n0, n1, n2, nfz, ns, nin, nnc, nm⟩ := hR3.cells
      rw [← jv] at n1
      have hs := ns.part (l := (i : Int)) (k := (i : Int) + x) (m := c3) (by omega) (by omega) (by omega) (by omega) (by omega)
      rw [map_part l (by omega) (by omega)] at hs
      repeat' (first | (simp (disch := omega) only [push_cast, ↓reduceIte, Nat.reduceEqDiff, Int.reduceToNat, Nat.reducePow, Int.reducePow, Int.reduceNeg, Nat.reduceMul, Int.reduceMul, Int.reduceAdd, Int.reduceSub, Nat.reduceAdd, Nat.reduceSub, Nat.reduceLeDiff, Int.reduceLT, Int.reduceLE, Int.reduceEq, Int.reduceMod, Int.reduceDiv, reduceCtorEq, not_true_eq_false, not_false_eq_true, n0, n1, n2, addr_add_eq, Nat.zero_add, Int.add_sub_cancel]) | refine vIfE_of (fun _ => ?_) (fun _ => ?_) | refine vIfD_of (fun _ => ?_) (fun _ => ?_) | refine vIfQ_of (fun _ => ?_) (fun _ => ?_) | refine vIfV_of (fun _ => ?_) (fun _ => ?_) | refine And.intro (by omega) ?_ | refine drawn_q ?_ | fail)
      intro w4 hl4
      have er : rB (l.drop i) x = ((l.drop i).take x.toNat, 0, (l.drop i).drop x.toNat) := by unfold rB; rw [if_neg (by simp; omega)]
      rw [er]
      refine ⟨_, rfl, ?_, inB_part nin _ _ _ _ _ (by omega), i + x.toNat, bad, hR3.chg (Chg.of_later (ks := []) hl4) (by simp) (by simp), by omega, by simp, g3.trans (Chg.of_later hl4), by simp [BadIs]⟩
      have e : (i : Int) + x - i = x := by omega
      simp only [e, Int.toNat_natCast] at hs ⊢
      exact hs.later hl4
  · intro w2 hl2
    exact bad' w2 hl2 (by omega)
theorem rN_c (k d : Nat) (l : List UInt8) (i : Nat) (bad : Bool) (least most : Int) (w : World) (h : Rm w k d l i bad) (hi : i ≤ l.length) (hl : l.length ≤ 140737488355000) :
    FnC Try.prog 57 #[pt k, .int .i64 least, .int .i64 most] w fun v w' => v = .int .i64 (rI (l.drop i) least most).1 ∧
      ∃ j b, Rm w' k d l j b ∧ j ≤ l.length ∧ l.drop j = (rI (l.drop i) least most).2.2 ∧ Chg w w' [k] ∧ BadIs b bad (rI (l.drop i) least most).2.1 := by
  refine enter57 _ _ _ ?_
  unfold B57
  repeat' (first | (simp (disch := omega) only [push_cast, ↓reduceIte, Nat.reduceEqDiff, Int.reduceToNat, Nat.reducePow, Int.reducePow, Int.reduceNeg, Nat.reduceMul, Int.reduceMul, Int.reduceAdd, Int.reduceSub, Nat.reduceAdd, Nat.reduceSub, Nat.reduceLeDiff, Int.reduceLT, Int.reduceLE, Int.reduceEq, Int.reduceMod, Int.reduceDiv, reduceCtorEq, not_true_eq_false, not_false_eq_true]) | refine vIfE_of (fun _ => ?_) (fun _ => ?_) | refine vIfD_of (fun _ => ?_) (fun _ => ?_) | refine vIfQ_of (fun _ => ?_) (fun _ => ?_) | refine vIfV_of (fun _ => ?_) (fun _ => ?_) | refine And.intro (by omega) ?_ | refine drawn_q ?_ | fail)
  refine (rRIntB_c k d l i bad least most w h hi hl).mono ?_
  rintro _ w1 ⟨rfl, h1⟩
  repeat' (first | (simp (disch := omega) only [push_cast, ↓reduceIte, Nat.reduceEqDiff, Int.reduceToNat, Nat.reducePow, Int.reducePow, Int.reduceNeg, Nat.reduceMul, Int.reduceMul, Int.reduceAdd, Int.reduceSub, Nat.reduceAdd, Nat.reduceSub, Nat.reduceLeDiff, Int.reduceLT, Int.reduceLE, Int.reduceEq, Int.reduceMod, Int.reduceDiv, reduceCtorEq, not_true_eq_false, not_false_eq_true]) | refine vIfE_of (fun _ => ?_) (fun _ => ?_) | refine vIfD_of (fun _ => ?_) (fun _ => ?_) | refine vIfQ_of (fun _ => ?_) (fun _ => ?_) | refine vIfV_of (fun _ => ?_) (fun _ => ?_) | refine And.intro (by omega) ?_ | refine drawn_q ?_ | fail)
  exact h1
theorem whole_c (k d : Nat) (l : List UInt8) (i : Nat) (bad : Bool) (w : World) (h : Rm w k d l i bad) :
    FnC Try.prog 61 #[pt k] w fun v w' => v = .bool (!bad && decide (i = l.length)) ∧ Later w w' := by
  obtain ⟨o, c, hc0, hc1, hc2, _⟩ := h.cells
  refine enter61 _ ?_
  unfold B61 pt
  cases bad with
  | true =>
    repeat' (first | (simp (disch := omega) only [push_cast, ↓reduceIte, Nat.reduceEqDiff, Int.reduceToNat, Nat.reducePow, Int.reducePow, Int.reduceNeg, Nat.reduceMul, Int.reduceMul, Int.reduceAdd, Int.reduceSub, Nat.reduceAdd, Nat.reduceSub, Nat.reduceLeDiff, Int.reduceLT, Int.reduceLE, Int.reduceEq, Int.reduceMod, Int.reduceDiv, reduceCtorEq, not_true_eq_false, not_false_eq_true, hc0, hc1, hc2, addr_add_eq, Nat.zero_add]) | refine vIfE_of (fun _ => ?_) (fun _ => ?_) | refine vIfD_of (fun _ => ?_) (fun _ => ?_) | refine vIfQ_of (fun _ => ?_) (fun _ => ?_) | refine vIfV_of (fun _ => ?_) (fun _ => ?_) | refine And.intro (by omega) ?_ | refine drawn_q ?_ | fail)
    intro w' hl
    repeat' (first | (simp (disch := omega) only [push_cast, ↓reduceIte, Nat.reduceEqDiff, Int.reduceToNat, Nat.reducePow, Int.reducePow, Int.reduceNeg, Nat.reduceMul, Int.reduceMul, Int.reduceAdd, Int.reduceSub, Nat.reduceAdd, Nat.reduceSub, Nat.reduceLeDiff, Int.reduceLT, Int.reduceLE, Int.reduceEq, Int.reduceMod, Int.reduceDiv, reduceCtorEq, not_true_eq_false, not_false_eq_true]) | refine vIfE_of (fun _ => ?_) (fun _ => ?_) | refine vIfD_of (fun _ => ?_) (fun _ => ?_) | refine vIfQ_of (fun _ => ?_) (fun _ => ?_) | refine vIfV_of (fun _ => ?_) (fun _ => ?_) | refine And.intro (by omega) ?_ | refine drawn_q ?_ | fail)
    exact hl
  | false =>
    repeat' (first | (simp (disch := omega) only [push_cast, ↓reduceIte, Nat.reduceEqDiff, Int.reduceToNat, Nat.reducePow, Int.reducePow, Int.reduceNeg, Nat.reduceMul, Int.reduceMul, Int.reduceAdd, Int.reduceSub, Nat.reduceAdd, Nat.reduceSub, Nat.reduceLeDiff, Int.reduceLT, Int.reduceLE, Int.reduceEq, Int.reduceMod, Int.reduceDiv, reduceCtorEq, not_true_eq_false, not_false_eq_true, hc0, hc1, hc2, addr_add_eq, Nat.zero_add]) | refine vIfE_of (fun _ => ?_) (fun _ => ?_) | refine vIfD_of (fun _ => ?_) (fun _ => ?_) | refine vIfQ_of (fun _ => ?_) (fun _ => ?_) | refine vIfV_of (fun _ => ?_) (fun _ => ?_) | refine And.intro (by omega) ?_ | refine drawn_q ?_ | fail)
    intro w' hl
    repeat' (first | (simp (disch := omega) only [push_cast, ↓reduceIte, Nat.reduceEqDiff, Int.reduceToNat, Nat.reducePow, Int.reducePow, Int.reduceNeg, Nat.reduceMul, Int.reduceMul, Int.reduceAdd, Int.reduceSub, Nat.reduceAdd, Nat.reduceSub, Nat.reduceLeDiff, Int.reduceLT, Int.reduceLE, Int.reduceEq, Int.reduceMod, Int.reduceDiv, reduceCtorEq, not_true_eq_false, not_false_eq_true]) | refine vIfE_of (fun _ => ?_) (fun _ => ?_) | refine vIfD_of (fun _ => ?_) (fun _ => ?_) | refine vIfQ_of (fun _ => ?_) (fun _ => ?_) | refine vIfV_of (fun _ => ?_) (fun _ => ?_) | refine And.intro (by omega) ?_ | refine drawn_q ?_ | fail)
    refine ⟨?_, hl⟩
    congr 1
    rw [Bool.eq_iff_iff]; simp; omega
theorem rI_facts2 (l : List UInt8) (a b : Int) : (rI l a b).2.1 = 0 ∧ a ≤ (rI l a b).1 ∧ (rI l a b).1 ≤ b ∧ I64 (rI l a b).1 ∨ (rI l a b).2.1 = 11 ∧ (rI l a b).1 = 0 := by
  rcases rI_facts l a b with h | h
  · exact .inl ⟨h.1, h.2.1, h.2.2.1, h.2.2.2.1⟩
  · exact .inr ⟨h.1, h.2.1⟩
/-- The list that was read of bytes: whether it is the one. -/
theorem fin_dec {b : List UInt8} {L : List Int} {j : Nat} {bad : Bool} (hok : Ok L) (hw : ∀ m, Dec b m → L = m ∧ bad = false ∧ j = b.length) :
    (!(!bad && decide (j = b.length))) = true ∨ encE L ≠ 0 ∨ encL L ≠ b → ∀ m, ¬ Dec b m := by
  rintro h m hm
  obtain ⟨rfl, rfl, rfl⟩ := hw m hm
  have hE : encE L = 0 := by unfold encE; rw [if_neg (by have := hm.2.1; omega)]
  rcases h with h | h | h
  · simp at h
  · exact h hE
  · refine h ?_
    unfold encL; rw [if_pos hE]; exact hm.2.2
/-- Behind the reading: encoded again. -/
theorem again_dec {b : List UInt8} {L : List Int} (hok : Ok L) (hE : encE L = 0) (h : encL L = b) : Dec b L := by
  have hl : ¬ 65536 < L.length := fun hh => by unfold encE at hE; rw [if_pos hh] at hE; omega
  refine ⟨hok, by omega, ?_⟩
  unfold encL at h
  rw [if_pos hE] at h; exact h
set_option maxRecDepth 100000 in
theorem rdecode_c (v : Value) (b : List UInt8) (w : World) (h : Sl w v (b.map u8v)) (hb : b.length ≤ 140737488355000) : FnC Try.prog 32 #[v] w fun r w' => DecR w' w.heap.size r b ∧ Later w w' := by
  have hs := h
  have hin := inB_lt h
  obtain ⟨o, c, rfl, g1, g2, h, g3⟩ := h.openM
  refine enter32 _ ?_
  unfold B32
  repeat' (first | (simp (disch := omega) only [push_cast, ↓reduceIte, Nat.reduceEqDiff, Int.reduceToNat, Nat.reducePow, Int.reducePow, Int.reduceNeg, Nat.reduceMul, Int.reduceMul, Int.reduceAdd, Int.reduceSub, Nat.reduceAdd, Nat.reduceSub, Nat.reduceLeDiff, Int.reduceLT, Int.reduceLE, Int.reduceEq, Int.reduceMod, Int.reduceDiv, reduceCtorEq, not_true_eq_false, not_false_eq_true]) | refine vIfE_of (fun _ => ?_) (fun _ => ?_) | refine vIfD_of (fun _ => ?_) (fun _ => ?_) | refine vIfQ_of (fun _ => ?_) (fun _ => ?_) | refine vIfV_of (fun _ => ?_) (fun _ => ?_) | refine And.intro (by omega) ?_ | refine drawn_q ?_ | fail)
  have hdb : ∃ d, d ≠ w.heap.size ∧ inB d (.slice o b.length c) := by
    rcases hin with h | ⟨k0, hk0, h⟩
    · exact ⟨w.heap.size + 1, by omega, h _⟩
    · exact ⟨k0, by omega, h⟩
  obtain ⟨d, hd, hin⟩ := hdb
  have hM : Rm (w.alloc (.cells (Value.agg #[.slice o b.length c, .int .i64 0, .bool false]).cells 74)) w.heap.size d b 0 false :=
    Rm.mk' (i := 0) (Blk.new _ _ _) (hs.later (later_alloc _ _)) hin hd
  have hl1 := later_alloc w (.cells (Value.agg #[.slice o b.length c, .int .i64 0, .bool false]).cells 74)
  generalize w.alloc (.cells (Value.agg #[.slice o b.length c, .int .i64 0, .bool false]).cells 74) = w1 at *
  have epk : (.pointer (some ⟨w.heap.size, 0, none⟩) : Value) = pt w.heap.size := rfl
  have hk : ∀ k ∈ [w.heap.size], w.heap.size ≤ k := by simp
  generalize hkk : w.heap.size = k at *
  rw [epk]
  refine (rN_c k d b 0 false 0 65536 w1 hM (by omega) hb).mono ?_
  rintro _ w2 ⟨rfl, j0, bad0, hM2, hj0, hd0, g2', hbad0⟩
  unfold BadIs at hbad0
  have hl2 := g2'.later hl1 (by rw [hkk]; exact hk)
  rw [List.drop_zero] at hd0 hbad0 ⊢
  have F0 := rI_facts2 b 0 65536
  rcases hq0 : rI b 0 65536 with ⟨n, e0, r0⟩
  rw [hq0] at F0 hd0 hbad0
  dsimp only at F0 hd0 hbad0 ⊢
  by_cases hn : 0 < n
  case neg =>
    repeat' (first | (simp (disch := omega) only [push_cast, ↓reduceIte, Nat.reduceEqDiff, Int.reduceToNat, Nat.reducePow, Int.reducePow, Int.reduceNeg, Nat.reduceMul, Int.reduceMul, Int.reduceAdd, Int.reduceSub, Nat.reduceAdd, Nat.reduceSub, Nat.reduceLeDiff, Int.reduceLT, Int.reduceLE, Int.reduceEq, Int.reduceMod, Int.reduceDiv, reduceCtorEq, not_true_eq_false, not_false_eq_true]) | refine vIfE_of (fun _ => ?_) (fun _ => ?_) | refine vIfD_of (fun _ => ?_) (fun _ => ?_) | refine vIfQ_of (fun _ => ?_) (fun _ => ?_) | refine vIfV_of (fun _ => ?_) (fun _ => ?_) | refine And.intro (by omega) ?_ | refine drawn_q ?_ | fail)
    have hw : ∀ m, Dec b m → ([] : List Int) = m ∧ bad0 = false ∧ j0 = b.length := by
      intro m hm
      have e := dec_n hm
      rw [hq0] at e
      simp only [Prod.mk.injEq] at e
      obtain ⟨en, ee, er⟩ := e
      have hm0 : m = [] := List.length_eq_zero_iff.1 (by omega)
      rw [if_pos hm0] at er
      refine ⟨hm0.symm, by rw [hbad0, ee]; rfl, ?_⟩
      have := congrArg List.length hd0
      rw [er, List.length_drop] at this
      simp at this; omega
    have hok : Ok ([] : List Int) := fun x hx => by simp at hx
    have hf := fin_dec hok hw
    refine (rencode_c _ ([] : List Int) w2 (Sl.nil w2) hok).mono ?_
    rintro _ w13 ⟨⟨xx, rfl, hxx⟩, hl13⟩
    obtain ⟨oxx, cxx, hvxx⟩ := hxx.slice
    subst hvxx
    have hM13 := hM2.chg (Chg.of_later (ks := []) hl13) (by simp) (by simp)
    have hl013 := hl2.trans hl13
    repeat' (first | (simp (disch := omega) only [push_cast, ↓reduceIte, Nat.reduceEqDiff, Int.reduceToNat, Nat.reducePow, Int.reducePow, Int.reduceNeg, Nat.reduceMul, Int.reduceMul, Int.reduceAdd, Int.reduceSub, Nat.reduceAdd, Nat.reduceSub, Nat.reduceLeDiff, Int.reduceLT, Int.reduceLE, Int.reduceEq, Int.reduceMod, Int.reduceDiv, reduceCtorEq, not_true_eq_false, not_false_eq_true]) | refine vIfE_of (fun _ => ?_) (fun _ => ?_) | refine vIfD_of (fun _ => ?_) (fun _ => ?_) | refine vIfQ_of (fun _ => ?_) (fun _ => ?_) | refine vIfV_of (fun _ => ?_) (fun _ => ?_) | refine And.intro (by omega) ?_ | refine drawn_q ?_ | fail)
    refine (whole_c k d b j0 bad0 w13 hM13).mono ?_
    rintro _ w14 ⟨rfl, hl14⟩
    have hl014 := hl013.trans hl14
    by_cases hW : (!bad0 && decide (j0 = b.length)) = true
    case neg =>
      have hW' : (!bad0 && decide (j0 = b.length)) = false := by simpa using hW
      rw [hW'] at hf ⊢
      have hno := hf (.inl rfl)
      repeat' (first | (simp (disch := omega) only [push_cast, ↓reduceIte, Nat.reduceEqDiff, Int.reduceToNat, Nat.reducePow, Int.reducePow, Int.reduceNeg, Nat.reduceMul, Int.reduceMul, Int.reduceAdd, Int.reduceSub, Nat.reduceAdd, Nat.reduceSub, Nat.reduceLeDiff, Int.reduceLT, Int.reduceLE, Int.reduceEq, Int.reduceMod, Int.reduceDiv, reduceCtorEq, not_true_eq_false, not_false_eq_true]) | refine vIfE_of (fun _ => ?_) (fun _ => ?_) | refine vIfD_of (fun _ => ?_) (fun _ => ?_) | refine vIfQ_of (fun _ => ?_) (fun _ => ?_) | refine vIfV_of (fun _ => ?_) (fun _ => ?_) | refine And.intro (by omega) ?_ | refine drawn_q ?_ | fail)
      exact ⟨dec_bad hno, hl014⟩
    rw [hW]
    by_cases hE : encE ([] : List Int) = 0
    case neg =>
      have hno := hf (.inr (.inl hE))
      repeat' (first | (simp (disch := omega) only [push_cast, ↓reduceIte, Nat.reduceEqDiff, Int.reduceToNat, Nat.reducePow, Int.reducePow, Int.reduceNeg, Nat.reduceMul, Int.reduceMul, Int.reduceAdd, Int.reduceSub, Nat.reduceAdd, Nat.reduceSub, Nat.reduceLeDiff, Int.reduceLT, Int.reduceLE, Int.reduceEq, Int.reduceMod, Int.reduceDiv, reduceCtorEq, not_true_eq_false, not_false_eq_true]) | refine vIfE_of (fun _ => ?_) (fun _ => ?_) | refine vIfD_of (fun _ => ?_) (fun _ => ?_) | refine vIfQ_of (fun _ => ?_) (fun _ => ?_) | refine vIfV_of (fun _ => ?_) (fun _ => ?_) | refine And.intro (by omega) ?_ | refine drawn_q ?_ | fail)
      exact ⟨dec_bad hno, hl014⟩
    rw [hE]
    repeat' (first | (simp (disch := omega) only [push_cast, ↓reduceIte, Nat.reduceEqDiff, Int.reduceToNat, Nat.reducePow, Int.reducePow, Int.reduceNeg, Nat.reduceMul, Int.reduceMul, Int.reduceAdd, Int.reduceSub, Nat.reduceAdd, Nat.reduceSub, Nat.reduceLeDiff, Int.reduceLT, Int.reduceLE, Int.reduceEq, Int.reduceMod, Int.reduceDiv, reduceCtorEq, not_true_eq_false, not_false_eq_true]) | refine vIfE_of (fun _ => ?_) (fun _ => ?_) | refine vIfD_of (fun _ => ?_) (fun _ => ?_) | refine vIfQ_of (fun _ => ?_) (fun _ => ?_) | refine vIfV_of (fun _ => ?_) (fun _ => ?_) | refine And.intro (by omega) ?_ | refine drawn_q ?_ | fail)
    refine vConv_bytes Try.underlying36 Try.underlying9 Try.underlying5 (hxx.sl.later hl14) ?_
    repeat' (first | (simp (disch := omega) only [push_cast, ↓reduceIte, Nat.reduceEqDiff, Int.reduceToNat, Nat.reducePow, Int.reducePow, Int.reduceNeg, Nat.reduceMul, Int.reduceMul, Int.reduceAdd, Int.reduceSub, Nat.reduceAdd, Nat.reduceSub, Nat.reduceLeDiff, Int.reduceLT, Int.reduceLE, Int.reduceEq, Int.reduceMod, Int.reduceDiv, reduceCtorEq, not_true_eq_false, not_false_eq_true]) | refine vIfE_of (fun _ => ?_) (fun _ => ?_) | refine vIfD_of (fun _ => ?_) (fun _ => ?_) | refine vIfQ_of (fun _ => ?_) (fun _ => ?_) | refine vIfV_of (fun _ => ?_) (fun _ => ?_) | refine And.intro (by omega) ?_ | refine drawn_q ?_ | fail)
    refine vConv_bytes Try.underlying36 Try.underlying9 Try.underlying5 (hs.later hl014) ?_
    by_cases hq : encL ([] : List Int) = b
    · repeat' (first | (simp (disch := omega) only [push_cast, ↓reduceIte, Nat.reduceEqDiff, Int.reduceToNat, Nat.reducePow, Int.reducePow, Int.reduceNeg, Nat.reduceMul, Int.reduceMul, Int.reduceAdd, Int.reduceSub, Nat.reduceAdd, Nat.reduceSub, Nat.reduceLeDiff, Int.reduceLT, Int.reduceLE, Int.reduceEq, Int.reduceMod, Int.reduceDiv, reduceCtorEq, not_true_eq_false, not_false_eq_true, hq, decide_true]) | refine vIfE_of (fun _ => ?_) (fun _ => ?_) | refine vIfD_of (fun _ => ?_) (fun _ => ?_) | refine vIfQ_of (fun _ => ?_) (fun _ => ?_) | refine vIfV_of (fun _ => ?_) (fun _ => ?_) | refine And.intro (by omega) ?_ | refine drawn_q ?_ | fail)
      refine ⟨⟨_, ([] : List Int), 0, rfl, .inl ⟨again_dec hok hE hq, rfl⟩, ?_⟩, hl014⟩
      exact own_nil _ _ _ _
    · have hno := hf (.inr (.inr hq))
      have hq2 : ¬ strOf (encL ([] : List Int)) = strOf b := fun h => hq (strOf_inj.1 h)
      repeat' (first | (simp (disch := omega) only [push_cast, ↓reduceIte, Nat.reduceEqDiff, Int.reduceToNat, Nat.reducePow, Int.reducePow, Int.reduceNeg, Nat.reduceMul, Int.reduceMul, Int.reduceAdd, Int.reduceSub, Nat.reduceAdd, Nat.reduceSub, Nat.reduceLeDiff, Int.reduceLT, Int.reduceLE, Int.reduceEq, Int.reduceMod, Int.reduceDiv, reduceCtorEq, not_true_eq_false, not_false_eq_true, hq2, decide_false]) | refine vIfE_of (fun _ => ?_) (fun _ => ?_) | refine vIfD_of (fun _ => ?_) (fun _ => ?_) | refine vIfQ_of (fun _ => ?_) (fun _ => ?_) | refine vIfV_of (fun _ => ?_) (fun _ => ?_) | refine And.intro (by omega) ?_ | refine drawn_q ?_ | fail)
      exact ⟨dec_bad hno, hl014⟩
  have he0 : e0 = 0 := by rcases F0 with h | h <;> omega
  subst he0
  have hrun := fun (m : List Int) (hm : Dec b m) => dec_run hm hq0 hn
  have hn2 : n ≤ 65536 := by rcases F0 with h | h <;> omega
  have hb0 : bad0 = false := by rw [hbad0]; rfl
  repeat' (first | (simp (disch := omega) only [push_cast, ↓reduceIte, Nat.reduceEqDiff, Int.reduceToNat, Nat.reducePow, Int.reducePow, Int.reduceNeg, Nat.reduceMul, Int.reduceMul, Int.reduceAdd, Int.reduceSub, Nat.reduceAdd, Nat.reduceSub, Nat.reduceLeDiff, Int.reduceLT, Int.reduceLE, Int.reduceEq, Int.reduceMod, Int.reduceDiv, reduceCtorEq, not_true_eq_false, not_false_eq_true]) | refine vIfE_of (fun _ => ?_) (fun _ => ?_) | refine vIfD_of (fun _ => ?_) (fun _ => ?_) | refine vIfQ_of (fun _ => ?_) (fun _ => ?_) | refine vIfV_of (fun _ => ?_) (fun _ => ?_) | refine And.intro (by omega) ?_ | refine drawn_q ?_ | fail)
  refine (rN_c k d b j0 bad0 (-9223372036854775808) 9223372036854775807 w2 hM2 hj0 hb).mono ?_
  rintro _ w3 ⟨rfl, j1, bad1, hM3, hj1, hd1, g3', hbad1⟩
  unfold BadIs at hbad1
  have hl3 := g3'.later hl2 (by rw [hkk]; exact hk)
  rw [hd0] at hd1 hbad1 ⊢
  have F1 := rI_facts2 r0 (-9223372036854775808) 9223372036854775807
  rcases hq1 : rI r0 (-9223372036854775808) 9223372036854775807 with ⟨f, e1, r1⟩
  rw [hq1] at F1 hd1 hbad1
  dsimp only at F1 hd1 hbad1 ⊢
  repeat' (first | (simp (disch := omega) only [push_cast, ↓reduceIte, Nat.reduceEqDiff, Int.reduceToNat, Nat.reducePow, Int.reducePow, Int.reduceNeg, Nat.reduceMul, Int.reduceMul, Int.reduceAdd, Int.reduceSub, Nat.reduceAdd, Nat.reduceSub, Nat.reduceLeDiff, Int.reduceLT, Int.reduceLE, Int.reduceEq, Int.reduceMod, Int.reduceDiv, reduceCtorEq, not_true_eq_false, not_false_eq_true]) | refine vIfE_of (fun _ => ?_) (fun _ => ?_) | refine vIfD_of (fun _ => ?_) (fun _ => ?_) | refine vIfQ_of (fun _ => ?_) (fun _ => ?_) | refine vIfV_of (fun _ => ?_) (fun _ => ?_) | refine And.intro (by omega) ?_ | refine drawn_q ?_ | fail)
  refine (rN_c k d b j1 bad1 (-9223372036854775808) 9223372036854775807 w3 hM3 hj1 hb).mono ?_
  rintro _ w4 ⟨rfl, j2, bad2, hM4, hj2, hd2, g4', hbad2⟩
  unfold BadIs at hbad2
  have hl4 := g4'.later hl3 (by rw [hkk]; exact hk)
  rw [hd1] at hd2 hbad2 ⊢
  have F2 := rI_facts2 r1 (-9223372036854775808) 9223372036854775807
  rcases hq2 : rI r1 (-9223372036854775808) 9223372036854775807 with ⟨bs, e2, r2⟩
  rw [hq2] at F2 hd2 hbad2
  dsimp only at F2 hd2 hbad2 ⊢
  repeat' (first | (simp (disch := omega) only [push_cast, ↓reduceIte, Nat.reduceEqDiff, Int.reduceToNat, Nat.reducePow, Int.reducePow, Int.reduceNeg, Nat.reduceMul, Int.reduceMul, Int.reduceAdd, Int.reduceSub, Nat.reduceAdd, Nat.reduceSub, Nat.reduceLeDiff, Int.reduceLT, Int.reduceLE, Int.reduceEq, Int.reduceMod, Int.reduceDiv, reduceCtorEq, not_true_eq_false, not_false_eq_true]) | refine vIfE_of (fun _ => ?_) (fun _ => ?_) | refine vIfD_of (fun _ => ?_) (fun _ => ?_) | refine vIfQ_of (fun _ => ?_) (fun _ => ?_) | refine vIfV_of (fun _ => ?_) (fun _ => ?_) | refine And.intro (by omega) ?_ | refine drawn_q ?_ | fail)
  refine (rN_c k d b j2 bad2 0 64 w4 hM4 hj2 hb).mono ?_
  rintro _ w5 ⟨rfl, j3, bad3, hM5, hj3, hd3, g5', hbad3⟩
  unfold BadIs at hbad3
  have hl5 := g5'.later hl4 (by rw [hkk]; exact hk)
  rw [hd2] at hd3 hbad3 ⊢
  have F3 := rI_facts2 r2 0 64
  rcases hq3 : rI r2 0 64 with ⟨wd, e3, r3⟩
  rw [hq3] at F3 hd3 hbad3
  dsimp only at F3 hd3 hbad3 ⊢
  have hI : I64 f ∧ I64 bs ∧ 0 ≤ wd ∧ wd ≤ 64 := by
    unfold I64 at *
    omega
  have hI' := hI
  unfold I64 at hI'
  repeat' (first | (simp (disch := omega) only [push_cast, ↓reduceIte, Nat.reduceEqDiff, Int.reduceToNat, Nat.reducePow, Int.reducePow, Int.reduceNeg, Nat.reduceMul, Int.reduceMul, Int.reduceAdd, Int.reduceSub, Nat.reduceAdd, Nat.reduceSub, Nat.reduceLeDiff, Int.reduceLT, Int.reduceLE, Int.reduceEq, Int.reduceMod, Int.reduceDiv, reduceCtorEq, not_true_eq_false, not_false_eq_true]) | refine vIfE_of (fun _ => ?_) (fun _ => ?_) | refine vIfD_of (fun _ => ?_) (fun _ => ?_) | refine vIfQ_of (fun _ => ?_) (fun _ => ?_) | refine vIfV_of (fun _ => ?_) (fun _ => ?_) | refine And.intro (by omega) ?_ | refine drawn_q ?_ | fail)
  refine (rSize_c (n - 1) wd w5 (by omega) (by omega)).mono ?_
  rintro _ w0 ⟨rfl, hw⟩
  obtain rfl := hw.symm
  have hsz : szR (n - 1) wd = (((n - 1) * wd + 7) / 8, 0) := by unfold szR; rw [if_neg (by omega)]
  rw [hsz]
  unfold tup2i
  have hm : 0 ≤ (n - 1) * wd ∧ (n - 1) * wd ≤ 4194304 := ⟨Int.mul_nonneg (by omega) (by omega), by
    have := Int.mul_le_mul (a := n - 1) (b := wd) (c := 65536) (d := 64) (by omega) (by omega) (by omega) (by omega)
    omega⟩
  have hsn : (((n - 1) * wd + 7) / 8).toNat = ((n - 1).toNat * wd.toNat + 7) / 8 := by
    have e : (((n - 1).toNat * wd.toNat : Nat) : Int) = (n - 1) * wd := by
      rw [Int.natCast_mul, Int.toNat_of_nonneg (by omega), Int.toNat_of_nonneg (by omega)]
    omega
  generalize hsv : ((n - 1) * wd + 7) / 8 = sz at *
  repeat' (first | (simp (disch := omega) only [push_cast, ↓reduceIte, Nat.reduceEqDiff, Int.reduceToNat, Nat.reducePow, Int.reducePow, Int.reduceNeg, Nat.reduceMul, Int.reduceMul, Int.reduceAdd, Int.reduceSub, Nat.reduceAdd, Nat.reduceSub, Nat.reduceLeDiff, Int.reduceLT, Int.reduceLE, Int.reduceEq, Int.reduceMod, Int.reduceDiv, reduceCtorEq, not_true_eq_false, not_false_eq_true]) | refine vIfE_of (fun _ => ?_) (fun _ => ?_) | refine vIfD_of (fun _ => ?_) (fun _ => ?_) | refine vIfQ_of (fun _ => ?_) (fun _ => ?_) | refine vIfV_of (fun _ => ?_) (fun _ => ?_) | refine And.intro (by omega) ?_ | refine drawn_q ?_ | fail)
  refine (rRBytesB_c k d b j3 bad3 sz w5 hM5 hj3 hb).mono ?_
  rintro _ w6 ⟨y, rfl, hy, hiny, j4, bad4, hM6, hj4, hd4, g6', hbad4⟩
  unfold BadIs at hbad4
  have hl6 := g6'.later hl5 (by rw [hkk]; exact hk)
  rw [hd3] at hd4 hbad4 hy ⊢
  rcases hq4 : rB r3 sz with ⟨pb, e4, r4⟩
  rw [hq4] at hd4 hbad4 hy
  dsimp only at hd4 hbad4 hy ⊢
  have hpl : pb.length ≤ 140737488355000 := by
    have e : pb.length ≤ r3.length := by
      unfold rB at hq4
      split at hq4
      · simp only [Prod.mk.injEq] at hq4; rw [← hq4.1]; simp
      · simp only [Prod.mk.injEq] at hq4; rw [← hq4.1]; simp; omega
    have : r3.length ≤ b.length := by rw [← hd3, List.length_drop]; omega
    omega
  obtain ⟨oy, cy, rfl, _⟩ := hy.openM
  repeat' (first | (simp (disch := omega) only [push_cast, ↓reduceIte, Nat.reduceEqDiff, Int.reduceToNat, Nat.reducePow, Int.reducePow, Int.reduceNeg, Nat.reduceMul, Int.reduceMul, Int.reduceAdd, Int.reduceSub, Nat.reduceAdd, Nat.reduceSub, Nat.reduceLeDiff, Int.reduceLT, Int.reduceLE, Int.reduceEq, Int.reduceMod, Int.reduceDiv, reduceCtorEq, not_true_eq_false, not_false_eq_true]) | refine vIfE_of (fun _ => ?_) (fun _ => ?_) | refine vIfD_of (fun _ => ?_) (fun _ => ?_) | refine vIfQ_of (fun _ => ?_) (fun _ => ?_) | refine vIfV_of (fun _ => ?_) (fun _ => ?_) | refine And.intro (by omega) ?_ | refine drawn_q ?_ | fail)
  refine (rUnpack_c _ pb (n - 1) wd w6 hy hpl (by omega) (by omega)).mono ?_
  rintro _ w7 ⟨⟨x, rfl, hx⟩, hl7⟩
  have hl07 := hl6.trans hl7
  have hM7 := hM6.chg (Chg.of_later (ks := []) hl7) (by simp) (by simp)
  have hall : ∀ m, Dec b m → unE pb (n - 1) wd = 0 ∧ unN f bs (nums pb (n - 1).toNat wd.toNat) = m ∧ bad4 = false ∧ j4 = b.length := by
    intro m hm
    obtain ⟨s1, s2, s3, hnm, a1, a2, a3, a4, a5⟩ := hrun m hm
    rw [hq1] at a1
    simp only [Prod.mk.injEq] at a1
    obtain ⟨b1, b2, b3⟩ := a1
    subst b3
    rw [hq2] at a2
    simp only [Prod.mk.injEq] at a2
    obtain ⟨c1, c2, c3⟩ := a2
    subst c3
    rw [hq3] at a3
    simp only [Prod.mk.injEq] at a3
    obtain ⟨d1, d2, d3⟩ := a3
    subst d3
    rw [← d1] at a4 a5
    have hr3 : r3.length = sz.toNat := by
      unfold unE at a4
      rw [if_neg (by omega)] at a4
      split at a4
      · omega
      · rename_i hh
        rw [hsn]; simpa using hh
    have hrb : rB r3 sz = (r3, 0, []) := by
      unfold rB
      rw [if_neg (by omega), ← hr3]
      simp
    rw [hq4] at hrb
    simp only [Prod.mk.injEq] at hrb
    obtain ⟨h1, h2, h3⟩ := hrb
    subst h1
    have hj : j4 = b.length := by
      have := congrArg List.length hd4
      rw [h3, List.length_drop] at this
      simp at this; omega
    refine ⟨a4, by rw [b1, c1]; exact a5, ?_, hj⟩
    rw [hbad4, hbad3, hbad2, hbad1, hb0, b2, c2, d2, h2]; rfl
  have F4 := unE_facts pb (n - 1) wd
  have hU : unE pb (n - 1) wd ≤ 100 := by
    unfold unE
    split
    · omega
    · split
      · omega
      · split <;> omega
  unfold unR at hx
  generalize unE pb (n - 1) wd = eu at *
  obtain ⟨ox, cx, hvx⟩ := hx.slice
  subst hvx
  by_cases hz : eu = 0
  case neg =>
    have hno : ∀ m, ¬ Dec b m := fun m hm => hz (hall m hm).1
    repeat' (first | (simp (disch := omega) only [push_cast, ↓reduceIte, Nat.reduceEqDiff, Int.reduceToNat, Nat.reducePow, Int.reducePow, Int.reduceNeg, Nat.reduceMul, Int.reduceMul, Int.reduceAdd, Int.reduceSub, Nat.reduceAdd, Nat.reduceSub, Nat.reduceLeDiff, Int.reduceLT, Int.reduceLE, Int.reduceEq, Int.reduceMod, Int.reduceDiv, reduceCtorEq, not_true_eq_false, not_false_eq_true]) | refine vIfE_of (fun _ => ?_) (fun _ => ?_) | refine vIfD_of (fun _ => ?_) (fun _ => ?_) | refine vIfQ_of (fun _ => ?_) (fun _ => ?_) | refine vIfV_of (fun _ => ?_) (fun _ => ?_) | refine And.intro (by omega) ?_ | refine drawn_q ?_ | fail)
    exact ⟨dec_bad hno, hl07⟩
  subst hz
  rw [if_pos rfl] at hx ⊢
  have hrl : (nums pb (n - 1).toNat wd.toNat).length = (n - 1).toNat := nums_len _ _ _
  generalize nums pb (n - 1).toNat wd.toNat = rest at *
  repeat' (first | (simp (disch := omega) only [push_cast, ↓reduceIte, Nat.reduceEqDiff, Int.reduceToNat, Nat.reducePow, Int.reducePow, Int.reduceNeg, Nat.reduceMul, Int.reduceMul, Int.reduceAdd, Int.reduceSub, Nat.reduceAdd, Nat.reduceSub, Nat.reduceLeDiff, Int.reduceLT, Int.reduceLE, Int.reduceEq, Int.reduceMod, Int.reduceDiv, reduceCtorEq, not_true_eq_false, not_false_eq_true]) | refine vIfE_of (fun _ => ?_) (fun _ => ?_) | refine vIfD_of (fun _ => ?_) (fun _ => ?_) | refine vIfQ_of (fun _ => ?_) (fun _ => ?_) | refine vIfV_of (fun _ => ?_) (fun _ => ?_) | refine And.intro (by omega) ?_ | refine drawn_q ?_ | fail)
  have hal := fun m hm => (hall m hm).2
  have Bn := Blk.new w7 #[.int .i64 f] 3
  have la := later_alloc w7 (.cells #[.int .i64 f] 3)
  have hkw : k ≤ w7.heap.size := by have := hl07.size; omega
  refine vAppend_own Try.underlying35 ti3 rfl (by decide) (n := 0) (m := 1) (own_nil _ w7.heap.size _ 1) (Sl.of_blk (xs := [.int .i64 f]) Bn rfl (by unfold maxLen; omega)) (by simp; rfl) (by unfold maxLen; omega) (by omega) (by have := la.size; omega) ?_
  intro v0 w8 ho0 hg0 _
  have hl8 := la.appended (own_nil _ w7.heap.size 3 1) (by omega) hg0
  have ho0 : OwnI w8 w7.heap.size 3 v0 [f] := ho0
  have hnn : rest.length ≤ 65535 := by omega
  repeat' (first | (simp (disch := omega) only [push_cast, ↓reduceIte, Nat.reduceEqDiff, Int.reduceToNat, Nat.reducePow, Int.reducePow, Int.reduceNeg, Nat.reduceMul, Int.reduceMul, Int.reduceAdd, Int.reduceSub, Nat.reduceAdd, Nat.reduceSub, Nat.reduceLeDiff, Int.reduceLT, Int.reduceLE, Int.reduceEq, Int.reduceMod, Int.reduceDiv, reduceCtorEq, not_true_eq_false, not_false_eq_true]) | refine vIfE_of (fun _ => ?_) (fun _ => ?_) | refine vIfD_of (fun _ => ?_) (fun _ => ?_) | refine vIfQ_of (fun _ => ?_) (fun _ => ?_) | refine vIfV_of (fun _ => ?_) (fun _ => ?_) | refine And.intro (by omega) ?_ | refine drawn_q ?_ | fail)
  refine vc_loop W32_0 (fun q : Nat × Value => [(6, q.2), (16, .int .i64 (q.1 : Int))])
    (fun q w' => q.1 ≤ rest.length ∧ Later w7 w' ∧ OwnI w' w7.heap.size 3 q.2 (unN f bs (rest.take q.1))) (fun q => rest.length - q.1) (0, v0) (by decide) ?_ ?_ ?_
  · simp (disch := omega) only [push_cast, ↓reduceIte, Nat.reduceEqDiff, Int.reduceToNat, Nat.reducePow, Int.reducePow, Int.reduceNeg, Nat.reduceMul, Int.reduceMul, Int.reduceAdd, Int.reduceSub, Nat.reduceAdd, Nat.reduceSub, Nat.reduceLeDiff, Int.reduceLT, Int.reduceLE, Int.reduceEq, Int.reduceMod, Int.reduceDiv, reduceCtorEq, not_true_eq_false, not_false_eq_true]
  · exact ⟨by omega, hl8, ho0⟩
  rintro ⟨i, v⟩ uu w9 ⟨hi, hl9, ho⟩
  dsimp only at hi ho
  have hl09 := hl07.trans hl9
  have hx9 := hx.later hl9
  have hM9 := hM7.chg (Chg.of_later (ks := []) hl9) (by simp) (by simp)
  obtain ⟨ov, cv, hov⟩ := ho.slice
  subst hov
  have hul := unN_len f bs (rest.take i)
  rw [List.length_take, Nat.min_eq_left hi] at hul
  have hos := ho.sl
  have hin9 := unN_in (f := f) bs (by omega) (rest.take i)
  by_cases hlt : i < rest.length
  · have hsn9 := unN_snoc f bs (rest.take i) rest[i]
    rw [← take_snoc rest i hlt] at hsn9
    unfold OwnI at ho
    rw [hul] at ho hos hsn9 ⊢
    generalize unN f bs (rest.take i) = L at *
    obtain ⟨ax, hax⟩ := hx9.sl.some hlt
    subst hax
    obtain ⟨av, hav⟩ := hos.some (show 0 < L.length by omega)
    subst hav
    have c1 := hx9.sl.at64 hlt
    have c2 := hos.atI (i := i) (by omega)
    have hi1 : (((i + 1 : Nat) : Int) - 1).toNat = i := by omega
    have hi2 : ((i : Int) + 1 - 1).toNat = i := by omega
    have hst : IntKind.i64.wrap (IntKind.i64.wrap (at_ L i + bs) + IntKind.i64.wrap (rest[i].toNat : Int)) = wr (wr (at_ L i + bs) + wr (rest[i].toNat : Int)) := by simp only [wrap_wr]
    have hi3 : i + 1 - 1 = i := by omega
    rw [hi3] at hsn9
    generalize hX : wr (wr (at_ L i + bs) + wr (rest[i].toNat : Int)) = X at *
    repeat' (first | (simp (disch := omega) only [push_cast, ↓reduceIte, Nat.reduceEqDiff, Int.reduceToNat, Nat.reducePow, Int.reducePow, Int.reduceNeg, Nat.reduceMul, Int.reduceMul, Int.reduceAdd, Int.reduceSub, Nat.reduceAdd, Nat.reduceSub, Nat.reduceLeDiff, Int.reduceLT, Int.reduceLE, Int.reduceEq, Int.reduceMod, Int.reduceDiv, reduceCtorEq, not_true_eq_false, not_false_eq_true]) | refine vIfE_of (fun _ => ?_) (fun _ => ?_) | refine vIfD_of (fun _ => ?_) (fun _ => ?_) | refine vIfQ_of (fun _ => ?_) (fun _ => ?_) | refine vIfV_of (fun _ => ?_) (fun _ => ?_) | refine And.intro (by omega) ?_ | fail)
    refine drawn_k 14 ?_
    repeat' (first | (simp (disch := omega) only [push_cast, ↓reduceIte, Nat.reduceEqDiff, Int.reduceToNat, Nat.reducePow, Int.reducePow, Int.reduceNeg, Nat.reduceMul, Int.reduceMul, Int.reduceAdd, Int.reduceSub, Nat.reduceAdd, Nat.reduceSub, Nat.reduceLeDiff, Int.reduceLT, Int.reduceLE, Int.reduceEq, Int.reduceMod, Int.reduceDiv, reduceCtorEq, not_true_eq_false, not_false_eq_true, c1, c2, hi1, hi2, hst]) | refine vIfE_of (fun _ => ?_) (fun _ => ?_) | refine vIfD_of (fun _ => ?_) (fun _ => ?_) | refine vIfQ_of (fun _ => ?_) (fun _ => ?_) | refine vIfV_of (fun _ => ?_) (fun _ => ?_) | refine And.intro (by omega) ?_ | fail)
    refine nB_of _ (RowV w9 3 #[.int .i64 X] 1) (stb_row _ _ _ _) (fun w' hl' => ?_) ?_
    · repeat' (first | (simp (disch := omega) only [push_cast, ↓reduceIte, Nat.reduceEqDiff, Int.reduceToNat, Nat.reducePow, Int.reducePow, Int.reduceNeg, Nat.reduceMul, Int.reduceMul, Int.reduceAdd, Int.reduceSub, Nat.reduceAdd, Nat.reduceSub, Nat.reduceLeDiff, Int.reduceLT, Int.reduceLE, Int.reduceEq, Int.reduceMod, Int.reduceDiv, reduceCtorEq, not_true_eq_false, not_false_eq_true, c1, c2, hi1, hi2, hst]) | refine vIfE_of (fun _ => ?_) (fun _ => ?_) | refine vIfD_of (fun _ => ?_) (fun _ => ?_) | refine vIfQ_of (fun _ => ?_) (fun _ => ?_) | refine vIfV_of (fun _ => ?_) (fun _ => ?_) | refine And.intro (by omega) ?_ | fail)
      exact RowV.new hl' _ _ _
    repeat' (first | (simp (disch := omega) only [push_cast, ↓reduceIte, Nat.reduceEqDiff, Int.reduceToNat, Nat.reducePow, Int.reducePow, Int.reduceNeg, Nat.reduceMul, Int.reduceMul, Int.reduceAdd, Int.reduceSub, Nat.reduceAdd, Nat.reduceSub, Nat.reduceLeDiff, Int.reduceLT, Int.reduceLE, Int.reduceEq, Int.reduceMod, Int.reduceDiv, reduceCtorEq, not_true_eq_false, not_false_eq_true]) | refine vIfE_of (fun _ => ?_) (fun _ => ?_) | refine vIfD_of (fun _ => ?_) (fun _ => ?_) | refine vIfQ_of (fun _ => ?_) (fun _ => ?_) | refine vIfV_of (fun _ => ?_) (fun _ => ?_) | refine And.intro (by omega) ?_ | fail)
    intro w10 hl10 x hx
    repeat' (first | (simp (disch := omega) only [push_cast, ↓reduceIte, Nat.reduceEqDiff, Int.reduceToNat, Nat.reducePow, Int.reducePow, Int.reduceNeg, Nat.reduceMul, Int.reduceMul, Int.reduceAdd, Int.reduceSub, Nat.reduceAdd, Nat.reduceSub, Nat.reduceLeDiff, Int.reduceLT, Int.reduceLE, Int.reduceEq, Int.reduceMod, Int.reduceDiv, reduceCtorEq, not_true_eq_false, not_false_eq_true]) | refine vIfE_of (fun _ => ?_) (fun _ => ?_) | refine vIfD_of (fun _ => ?_) (fun _ => ?_) | refine vIfQ_of (fun _ => ?_) (fun _ => ?_) | refine vIfV_of (fun _ => ?_) (fun _ => ?_) | refine And.intro (by omega) ?_ | fail)
    have hxs : SlN w10 1 x 1 [.int .i64 X] := hx.sl (l := [.int .i64 X]) rfl (by unfold maxLen; omega)
    have ho10 := own_later ho hl10
    have hl710 := hl9.trans hl10
    refine vAppend_own Try.underlying35 ti3 rfl (by decide) ho10 hxs (by simp; rfl) (by unfold maxLen; omega) (by omega) hl710.size ?_
    intro v' w' ho' hg _
    have hl' := hl710.appended ho10 (by omega) hg
    repeat' (first | (simp (disch := omega) only [push_cast, ↓reduceIte, Nat.reduceEqDiff, Int.reduceToNat, Nat.reducePow, Int.reducePow, Int.reduceNeg, Nat.reduceMul, Int.reduceMul, Int.reduceAdd, Int.reduceSub, Nat.reduceAdd, Nat.reduceSub, Nat.reduceLeDiff, Int.reduceLT, Int.reduceLE, Int.reduceEq, Int.reduceMod, Int.reduceDiv, reduceCtorEq, not_true_eq_false, not_false_eq_true]) | refine vIfE_of (fun _ => ?_) (fun _ => ?_) | refine vIfD_of (fun _ => ?_) (fun _ => ?_) | refine vIfQ_of (fun _ => ?_) (fun _ => ?_) | refine vIfV_of (fun _ => ?_) (fun _ => ?_) | refine And.intro (by omega) ?_ | refine drawn_q ?_ | fail)
    refine ⟨rfl, (i + 1, v'), by simp (disch := omega) only [push_cast, ↓reduceIte, Nat.reduceEqDiff, Int.reduceToNat, Nat.reducePow, Int.reducePow, Int.reduceNeg, Nat.reduceMul, Int.reduceMul, Int.reduceAdd, Int.reduceSub, Nat.reduceAdd, Nat.reduceSub, Nat.reduceLeDiff, Int.reduceLT, Int.reduceLE, Int.reduceEq, Int.reduceMod, Int.reduceDiv, reduceCtorEq, not_true_eq_false, not_false_eq_true], ⟨by dsimp only; omega, hl', ?_⟩, by dsimp only; omega⟩
    dsimp only
    rw [hsn9]
    unfold OwnI
    rw [List.length_append, hul, List.map_append]
    exact ho'
  · have e : i = rest.length := by omega
    subst e
    rw [List.take_length] at ho hos hul hin9 ⊢
    generalize unN f bs rest = L at *
    have hLl : ¬ 65536 < L.length := by omega
    have hok : Ok L := hin9
    have hw : ∀ m, Dec b m → L = m ∧ bad4 = false ∧ j4 = b.length := hal
    repeat' (first | (simp (disch := omega) only [push_cast, ↓reduceIte, Nat.reduceEqDiff, Int.reduceToNat, Nat.reducePow, Int.reducePow, Int.reduceNeg, Nat.reduceMul, Int.reduceMul, Int.reduceAdd, Int.reduceSub, Nat.reduceAdd, Nat.reduceSub, Nat.reduceLeDiff, Int.reduceLT, Int.reduceLE, Int.reduceEq, Int.reduceMod, Int.reduceDiv, reduceCtorEq, not_true_eq_false, not_false_eq_true]) | refine vIfE_of (fun _ => ?_) (fun _ => ?_) | refine vIfD_of (fun _ => ?_) (fun _ => ?_) | refine vIfQ_of (fun _ => ?_) (fun _ => ?_) | refine vIfV_of (fun _ => ?_) (fun _ => ?_) | refine And.intro (by omega) ?_ | refine drawn_q ?_ | fail)
    have hf := fin_dec hok hw
    refine (rencode_c _ L w9 hos hok).mono ?_
    rintro _ w13 ⟨⟨xx, rfl, hxx⟩, hl13⟩
    obtain ⟨oxx, cxx, hvxx⟩ := hxx.slice
    subst hvxx
    have hM13 := hM9.chg (Chg.of_later (ks := []) hl13) (by simp) (by simp)
    have hl013 := hl09.trans hl13
    repeat' (first | (simp (disch := omega) only [push_cast, ↓reduceIte, Nat.reduceEqDiff, Int.reduceToNat, Nat.reducePow, Int.reducePow, Int.reduceNeg, Nat.reduceMul, Int.reduceMul, Int.reduceAdd, Int.reduceSub, Nat.reduceAdd, Nat.reduceSub, Nat.reduceLeDiff, Int.reduceLT, Int.reduceLE, Int.reduceEq, Int.reduceMod, Int.reduceDiv, reduceCtorEq, not_true_eq_false, not_false_eq_true]) | refine vIfE_of (fun _ => ?_) (fun _ => ?_) | refine vIfD_of (fun _ => ?_) (fun _ => ?_) | refine vIfQ_of (fun _ => ?_) (fun _ => ?_) | refine vIfV_of (fun _ => ?_) (fun _ => ?_) | refine And.intro (by omega) ?_ | refine drawn_q ?_ | fail)
    refine (whole_c k d b j4 bad4 w13 hM13).mono ?_
    rintro _ w14 ⟨rfl, hl14⟩
    have hl014 := hl013.trans hl14
    by_cases hW : (!bad4 && decide (j4 = b.length)) = true
    case neg =>
      have hW' : (!bad4 && decide (j4 = b.length)) = false := by simpa using hW
      rw [hW'] at hf ⊢
      have hno := hf (.inl rfl)
      repeat' (first | (simp (disch := omega) only [push_cast, ↓reduceIte, Nat.reduceEqDiff, Int.reduceToNat, Nat.reducePow, Int.reducePow, Int.reduceNeg, Nat.reduceMul, Int.reduceMul, Int.reduceAdd, Int.reduceSub, Nat.reduceAdd, Nat.reduceSub, Nat.reduceLeDiff, Int.reduceLT, Int.reduceLE, Int.reduceEq, Int.reduceMod, Int.reduceDiv, reduceCtorEq, not_true_eq_false, not_false_eq_true]) | refine vIfE_of (fun _ => ?_) (fun _ => ?_) | refine vIfD_of (fun _ => ?_) (fun _ => ?_) | refine vIfQ_of (fun _ => ?_) (fun _ => ?_) | refine vIfV_of (fun _ => ?_) (fun _ => ?_) | refine And.intro (by omega) ?_ | refine drawn_q ?_ | fail)
      exact ⟨dec_bad hno, hl014⟩
    rw [hW]
    by_cases hE : encE L = 0
    case neg =>
      have hno := hf (.inr (.inl hE))
      repeat' (first | (simp (disch := omega) only [push_cast, ↓reduceIte, Nat.reduceEqDiff, Int.reduceToNat, Nat.reducePow, Int.reducePow, Int.reduceNeg, Nat.reduceMul, Int.reduceMul, Int.reduceAdd, Int.reduceSub, Nat.reduceAdd, Nat.reduceSub, Nat.reduceLeDiff, Int.reduceLT, Int.reduceLE, Int.reduceEq, Int.reduceMod, Int.reduceDiv, reduceCtorEq, not_true_eq_false, not_false_eq_true]) | refine vIfE_of (fun _ => ?_) (fun _ => ?_) | refine vIfD_of (fun _ => ?_) (fun _ => ?_) | refine vIfQ_of (fun _ => ?_) (fun _ => ?_) | refine vIfV_of (fun _ => ?_) (fun _ => ?_) | refine And.intro (by omega) ?_ | refine drawn_q ?_ | fail)
      exact ⟨dec_bad hno, hl014⟩
    rw [hE]
    repeat' (first | (simp (disch := omega) only [push_cast, ↓reduceIte, Nat.reduceEqDiff, Int.reduceToNat, Nat.reducePow, Int.reducePow, Int.reduceNeg, Nat.reduceMul, Int.reduceMul, Int.reduceAdd, Int.reduceSub, Nat.reduceAdd, Nat.reduceSub, Nat.reduceLeDiff, Int.reduceLT, Int.reduceLE, Int.reduceEq, Int.reduceMod, Int.reduceDiv, reduceCtorEq, not_true_eq_false, not_false_eq_true]) | refine vIfE_of (fun _ => ?_) (fun _ => ?_) | refine vIfD_of (fun _ => ?_) (fun _ => ?_) | refine vIfQ_of (fun _ => ?_) (fun _ => ?_) | refine vIfV_of (fun _ => ?_) (fun _ => ?_) | refine And.intro (by omega) ?_ | refine drawn_q ?_ | fail)
    refine vConv_bytes Try.underlying36 Try.underlying9 Try.underlying5 (hxx.sl.later hl14) ?_
    repeat' (first | (simp (disch := omega) only [push_cast, ↓reduceIte, Nat.reduceEqDiff, Int.reduceToNat, Nat.reducePow, Int.reducePow, Int.reduceNeg, Nat.reduceMul, Int.reduceMul, Int.reduceAdd, Int.reduceSub, Nat.reduceAdd, Nat.reduceSub, Nat.reduceLeDiff, Int.reduceLT, Int.reduceLE, Int.reduceEq, Int.reduceMod, Int.reduceDiv, reduceCtorEq, not_true_eq_false, not_false_eq_true]) | refine vIfE_of (fun _ => ?_) (fun _ => ?_) | refine vIfD_of (fun _ => ?_) (fun _ => ?_) | refine vIfQ_of (fun _ => ?_) (fun _ => ?_) | refine vIfV_of (fun _ => ?_) (fun _ => ?_) | refine And.intro (by omega) ?_ | refine drawn_q ?_ | fail)
    refine vConv_bytes Try.underlying36 Try.underlying9 Try.underlying5 (hs.later hl014) ?_
    by_cases hq : encL L = b
    · repeat' (first | (simp (disch := omega) only [push_cast, ↓reduceIte, Nat.reduceEqDiff, Int.reduceToNat, Nat.reducePow, Int.reducePow, Int.reduceNeg, Nat.reduceMul, Int.reduceMul, Int.reduceAdd, Int.reduceSub, Nat.reduceAdd, Nat.reduceSub, Nat.reduceLeDiff, Int.reduceLT, Int.reduceLE, Int.reduceEq, Int.reduceMod, Int.reduceDiv, reduceCtorEq, not_true_eq_false, not_false_eq_true, hq, decide_true]) | refine vIfE_of (fun _ => ?_) (fun _ => ?_) | refine vIfD_of (fun _ => ?_) (fun _ => ?_) | refine vIfQ_of (fun _ => ?_) (fun _ => ?_) | refine vIfV_of (fun _ => ?_) (fun _ => ?_) | refine And.intro (by omega) ?_ | refine drawn_q ?_ | fail)
      refine ⟨⟨_, L, 0, rfl, .inl ⟨again_dec hok hE hq, rfl⟩, ?_⟩, hl014⟩
      exact own_base (own_later (own_later ho hl13) hl14) (by omega)
    · have hno := hf (.inr (.inr hq))
      have hq2 : ¬ strOf (encL L) = strOf b := fun h => hq (strOf_inj.1 h)
      repeat' (first | (simp (disch := omega) only [push_cast, ↓reduceIte, Nat.reduceEqDiff, Int.reduceToNat, Nat.reducePow, Int.reducePow, Int.reduceNeg, Nat.reduceMul, Int.reduceMul, Int.reduceAdd, Int.reduceSub, Nat.reduceAdd, Nat.reduceSub, Nat.reduceLeDiff, Int.reduceLT, Int.reduceLE, Int.reduceEq, Int.reduceMod, Int.reduceDiv, reduceCtorEq, not_true_eq_false, not_false_eq_true, hq2, decide_false]) | refine vIfE_of (fun _ => ?_) (fun _ => ?_) | refine vIfD_of (fun _ => ?_) (fun _ => ?_) | refine vIfQ_of (fun _ => ?_) (fun _ => ?_) | refine vIfV_of (fun _ => ?_) (fun _ => ?_) | refine And.intro (by omega) ?_ | refine drawn_q ?_ | fail)
      exact ⟨dec_bad hno, hl014⟩
end Go.Proofs.Ytdfdohajjgjbdaa
