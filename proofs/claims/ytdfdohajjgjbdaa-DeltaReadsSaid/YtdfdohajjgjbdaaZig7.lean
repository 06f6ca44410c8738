/- The contracts of the document's reader. -/
import Derived.Test.YtdfdohajjgjbdaaZig6
set_option linter.unusedSimpArgs false
namespace Go.Proofs.Ytdfdohajjgjbdaa
open Go.Vc Go.Zig

/-- The document's reader at block k, of bytes in block d, at i. -/
def Rm (w : World) (k d : Nat) (l : List UInt8) (i : Nat) (bad : Bool) : Prop :=
  ∃ o n c, Blk w k #[.slice o n c, .int .i64 i, .bool bad] 74 ∧ Sl w (.slice o n c) (l.map u8v) ∧ inB d (.slice o n c) ∧ d ≠ k ∧ k < w.heap.size
theorem Rm.chg {w w' : World} {k d : Nat} {l : List UInt8} {i : Nat} {bad : Bool} {ks : List Nat} (h : Rm w k d l i bad) (g : Chg w w' ks) (hk : k ∉ ks) (hd : d ∉ ks) : Rm w' k d l i bad := by
  obtain ⟨o, n, c, h1, h2, h3, h4, h5⟩ := h
  exact ⟨o, n, c, h1.chg g hk, h2.chg g hd h3, h3, h4, Nat.lt_of_lt_of_le h5 g.size⟩
/-- What number answers. -/
def numV (l : List UInt8) : Int × Int := match num l with
  | none => (0, 0)
  | some (u, n) => (u, n)
theorem zrNumber_c (k d : Nat) (l : List UInt8) (i : Nat) (bad : Bool) (w : World) (h : Rm w k d l i bad) (hi : i ≤ l.length) (hl : l.length ≤ 140737488355000) :
    FnC Try.prog 79 #[pt k] w fun v w' => v = .tuple #[.int .u64 (numV (l.drop i)).1, .int .i64 (numV (l.drop i)).2] ∧ Later w w' := by
  obtain ⟨o, n, c, h1, h2, h3, h4, h5⟩ := h
  obtain ⟨hn, hnc, hm, hnil⟩ := h2.len
  unfold maxLen at hm
  simp only [List.length_map] at hn
  refine enter79 _ ?_
  unfold B79 pt
  simp (disch := omega) only [push_cast, ↓reduceIte, Nat.reduceEqDiff, Int.reduceToNat, Nat.reducePow, Int.reducePow, Int.reduceNeg, Nat.reduceMul, Int.reduceMul, Int.reduceAdd, Int.reduceSub, Nat.reduceAdd, Nat.reduceSub, Nat.reduceLeDiff, Int.reduceLT, Int.reduceLE, Int.reduceEq, Int.reduceMod, Int.reduceDiv, reduceCtorEq, not_true_eq_false, not_false_eq_true]
  refine vc_loop W79_0 (fun s : Nat × Nat => [(5, .int .i64 (s.1 : Int)), (4, .int .u64 (s.2 : Int))])
    (fun s w' => Later w w' ∧ s.1 ≤ min (l.length - i) 10 ∧ s.2 < 18446744073709551616 ∧ numGo s.1 s.2 (l.drop (i + s.1)) = num (l.drop i)) (fun s => 10 - s.1) (0, 0) (by decide) ?_ ?_ ?_
  · simp (disch := omega) only [push_cast, ↓reduceIte, Nat.reduceEqDiff, Int.reduceToNat, Nat.reducePow, Int.reducePow, Int.reduceNeg, Nat.reduceMul, Int.reduceMul, Int.reduceAdd, Int.reduceSub, Nat.reduceAdd, Nat.reduceSub, Nat.reduceLeDiff, Int.reduceLT, Int.reduceLE, Int.reduceEq, Int.reduceMod, Int.reduceDiv, reduceCtorEq, not_true_eq_false, not_false_eq_true]
  · exact ⟨Later.refl _, by omega, by omega, by simp [num]⟩
  rintro ⟨j, u⟩ uu w2 ⟨hl2, hj, hu, hn2⟩
  dsimp only at hj hu hn2
  have b1 := h1.chg (Chg.of_later (ks := []) hl2) (by simp)
  have hc0 : w2.cell? ⟨k, 0, none⟩ = some (.slice o n c) := b1.cell 0
  have hc1 : w2.cell? ⟨k, 1, none⟩ = some (.int .i64 i) := b1.cell 1
  have hend : (10 ≤ j ∨ l.length ≤ i + j) → numV (l.drop i) = (0, 0) := by
    intro h
    have h0 : num (l.drop i) = none := by
      rw [← hn2]
      by_cases hi10 : j = 10
      · subst hi10; exact numGo_ten _ _
      · rw [List.drop_of_length_le (by omega)]; rfl
    unfold numV; rw [h0]
  repeat' (first | (simp (disch := omega) only [push_cast, ↓reduceIte, Nat.reduceEqDiff, Int.reduceToNat, Nat.reducePow, Int.reducePow, Int.reduceNeg, Nat.reduceMul, Int.reduceMul, Int.reduceAdd, Int.reduceSub, Nat.reduceAdd, Nat.reduceSub, Nat.reduceLeDiff, Int.reduceLT, Int.reduceLE, Int.reduceEq, Int.reduceMod, Int.reduceDiv, reduceCtorEq, not_true_eq_false, not_false_eq_true, hc0, hc1, addr_add_eq, Nat.zero_add]) | refine vIfE_of (fun _ => ?_) (fun _ => ?_) | refine vIfD_of (fun _ => ?_) (fun _ => ?_) | refine vIfQ_of (fun _ => ?_) (fun _ => ?_) | refine vIfV_of (fun _ => ?_) (fun _ => ?_) | refine And.intro (by omega) ?_ | refine drawn_q ?_ | fail)
  · intro w3 hl3
    have hl23 := hl2.trans hl3
    repeat' (first | (simp (disch := omega) only [push_cast, ↓reduceIte, Nat.reduceEqDiff, Int.reduceToNat, Nat.reducePow, Int.reducePow, Int.reduceNeg, Nat.reduceMul, Int.reduceMul, Int.reduceAdd, Int.reduceSub, Nat.reduceAdd, Nat.reduceSub, Nat.reduceLeDiff, Int.reduceLT, Int.reduceLE, Int.reduceEq, Int.reduceMod, Int.reduceDiv, reduceCtorEq, not_true_eq_false, not_false_eq_true]) | refine vIfE_of (fun _ => ?_) (fun _ => ?_) | refine vIfD_of (fun _ => ?_) (fun _ => ?_) | refine vIfQ_of (fun _ => ?_) (fun _ => ?_) | refine vIfV_of (fun _ => ?_) (fun _ => ?_) | refine And.intro (by omega) ?_ | refine drawn_q ?_ | fail)
    · have hil : i + j < l.length := by omega
      cases o with
      | none => have := (hnil rfl).1; simp at this; subst this; simp at hil
      | some a =>
        have b2 := h1.chg (Chg.of_later (ks := []) hl23) (by simp)
        have hd0 : w3.cell? ⟨k, 0, none⟩ = some (.slice (some a) n c) := b2.cell 0
        have hd1 : w3.cell? ⟨k, 1, none⟩ = some (.int .i64 i) := b2.cell 1
        have hc : w3.cell? (a.add ((i : Int) + (j : Int)).toNat) = some (.int .u8 (l[i + j].toNat : Int)) := by
          have et : ((i : Int) + (j : Int)).toNat = i + j := by omega
          rw [et]; exact (h2.later hl23).at (by simp [u8v, hil])
        rw [List.drop_eq_getElem_cons hil] at hn2
        unfold numGo at hn2
        rw [if_neg (by omega)] at hn2
        generalize hcv : l[i + j] = cc at *
        have hcc := cc.toNat_lt
        repeat' (first | (simp (disch := omega) only [push_cast, ↓reduceIte, Nat.reduceEqDiff, Int.reduceToNat, Nat.reducePow, Int.reducePow, Int.reduceNeg, Nat.reduceMul, Int.reduceMul, Int.reduceAdd, Int.reduceSub, Nat.reduceAdd, Nat.reduceSub, Nat.reduceLeDiff, Int.reduceLT, Int.reduceLE, Int.reduceEq, Int.reduceMod, Int.reduceDiv, reduceCtorEq, not_true_eq_false, not_false_eq_true, hd0, hd1, addr_add_eq, Nat.zero_add, hc]) | refine vIfE_of (fun _ => ?_) (fun _ => ?_) | refine vIfD_of (fun _ => ?_) (fun _ => ?_) | refine vIfQ_of (fun _ => ?_) (fun _ => ?_) | refine vIfV_of (fun _ => ?_) (fun _ => ?_) | refine And.intro (by omega) ?_ | refine drawn_q ?_ | fail)
        intro w4 hl4
        have hl24 := hl23.trans hl4
        repeat' (first | (simp (disch := omega) only [push_cast, ↓reduceIte, Nat.reduceEqDiff, Int.reduceToNat, Nat.reducePow, Int.reducePow, Int.reduceNeg, Nat.reduceMul, Int.reduceMul, Int.reduceAdd, Int.reduceSub, Nat.reduceAdd, Nat.reduceSub, Nat.reduceLeDiff, Int.reduceLT, Int.reduceLE, Int.reduceEq, Int.reduceMod, Int.reduceDiv, reduceCtorEq, not_true_eq_false, not_false_eq_true]) | refine vIfE_of (fun _ => ?_) (fun _ => ?_) | refine vIfD_of (fun _ => ?_) (fun _ => ?_) | refine vIfQ_of (fun _ => ?_) (fun _ => ?_) | refine vIfV_of (fun _ => ?_) (fun _ => ?_) | refine And.intro (by omega) ?_ | refine drawn_q ?_ | fail)
        all_goals first
          | (unfold numV; rw [← hn2, if_pos (by omega)]; exact ⟨rfl, hl24⟩)
          | (unfold numV; rw [← hn2, if_neg (by omega), if_pos (by omega)]; exact ⟨tup2 (by dsimp only; omega) (by dsimp only; omega), hl24⟩)
          | (refine ⟨rfl, (j + 1, 128 * u + cc.toNat % 128), by simp (disch := omega) only [push_cast, ↓reduceIte, Nat.reduceEqDiff, Int.reduceToNat, Nat.reducePow, Int.reducePow, Int.reduceNeg, Nat.reduceMul, Int.reduceMul, Int.reduceAdd, Int.reduceSub, Nat.reduceAdd, Nat.reduceSub, Nat.reduceLeDiff, Int.reduceLT, Int.reduceLE, Int.reduceEq, Int.reduceMod, Int.reduceDiv, reduceCtorEq, not_true_eq_false, not_false_eq_true], ⟨hl24, by simp; omega, by simp; omega, ?_⟩, by simp; omega⟩
             rw [if_neg (by omega), if_neg (by omega), Nat.mul_comm u 128] at hn2; exact hn2)
    · rw [hend (by omega)]; exact ⟨rfl, hl23⟩
  · intro w3 hl3
    have hl23 := hl2.trans hl3
    repeat' (first | (simp (disch := omega) only [push_cast, ↓reduceIte, Nat.reduceEqDiff, Int.reduceToNat, Nat.reducePow, Int.reducePow, Int.reduceNeg, Nat.reduceMul, Int.reduceMul, Int.reduceAdd, Int.reduceSub, Nat.reduceAdd, Nat.reduceSub, Nat.reduceLeDiff, Int.reduceLT, Int.reduceLE, Int.reduceEq, Int.reduceMod, Int.reduceDiv, reduceCtorEq, not_true_eq_false, not_false_eq_true]) | refine vIfE_of (fun _ => ?_) (fun _ => ?_) | refine vIfD_of (fun _ => ?_) (fun _ => ?_) | refine vIfQ_of (fun _ => ?_) (fun _ => ?_) | refine vIfV_of (fun _ => ?_) (fun _ => ?_) | refine And.intro (by omega) ?_ | refine drawn_q ?_ | fail)
    rw [hend (by omega)]; exact ⟨rfl, hl23⟩
theorem num_numV {l : List UInt8} : (num l = none ∧ numV l = (0, 0)) ∨ ∃ (u n : Nat), num l = some (u, n) ∧ numV l = ((u : Int), (n : Int)) ∧ U64 u ∧ 0 < n ∧ n ≤ l.length := by
  unfold numV
  cases h : num l with
  | none => exact .inl ⟨rfl, rfl⟩
  | some p =>
    obtain ⟨u, n⟩ := p
    have := num_some h
    exact .inr ⟨u, n, rfl, rfl, by unfold U64; omega, by omega, by omega⟩
theorem Rm.mk' {w : World} {k d : Nat} {l : List UInt8} {o : Option Addr} {n c : Nat} {i : Nat} {bad : Bool} (h1 : Blk w k #[.slice o n c, .int .i64 i, .bool bad] 74) (h2 : Sl w (.slice o n c) (l.map u8v)) (h3 : inB d (.slice o n c)) (h4 : d ≠ k) : Rm w k d l i bad := ⟨o, n, c, h1, h2, h3, h4, h1.lt⟩
theorem Rm.setI {w : World} {k d : Nat} {l : List UInt8} {i : Nat} {bad : Bool} (h : Rm w k d l i bad) (j : Nat) : Rm (w.setCell ⟨k, 1, none⟩ (.int .i64 j)) k d l j bad := by
  obtain ⟨o, n, c, h1, h2, h3, h4, h5⟩ := h
  exact Rm.mk' (by simpa using h1.set 1 (.int .i64 j)) (Sl.chg h2 (chg_setCell w (ks := [k]) (by simp) _) (by simpa using h4) h3) h3 h4
theorem Rm.setBad {w : World} {k d : Nat} {l : List UInt8} {i : Nat} {bad : Bool} (h : Rm w k d l i bad) (b : Bool) : Rm (w.setCell ⟨k, 2, none⟩ (.bool b)) k d l i b := by
  obtain ⟨o, n, c, h1, h2, h3, h4, h5⟩ := h
  exact Rm.mk' (by simpa using h1.set 2 (.bool b)) (Sl.chg h2 (chg_setCell w (ks := [k]) (by simp) _) (by simpa using h4) h3) h3 h4
theorem rRInt_c (k d : Nat) (l : List UInt8) (i : Nat) (bad : Bool) (least most : Int) (w : World) (h : Rm w k d l i bad) (hi : i ≤ l.length) (hl : l.length ≤ 140737488355000) :
    FnC Try.prog 75 #[pt k, .int .i64 least, .int .i64 most] w fun v w' => v = .tuple #[.int .i64 (rI (l.drop i) least most).1, .int .i64 (rI (l.drop i) least most).2.1] ∧
      ∃ j b, Rm w' k d l j b ∧ j ≤ l.length ∧ l.drop j = (rI (l.drop i) least most).2.2 ∧ Chg w w' [k] := by
  have h' := h
  obtain ⟨o, n, c, h1, h2, h3, h4, h5⟩ := h
  refine enter75 _ _ _ ?_
  unfold B75
  repeat' (first | (simp (disch := omega) only [push_cast, ↓reduceIte, Nat.reduceEqDiff, Int.reduceToNat, Nat.reducePow, Int.reducePow, Int.reduceNeg, Nat.reduceMul, Int.reduceMul, Int.reduceAdd, Int.reduceSub, Nat.reduceAdd, Nat.reduceSub, Nat.reduceLeDiff, Int.reduceLT, Int.reduceLE, Int.reduceEq, Int.reduceMod, Int.reduceDiv, reduceCtorEq, not_true_eq_false, not_false_eq_true]) | refine vIfE_of (fun _ => ?_) (fun _ => ?_) | refine vIfD_of (fun _ => ?_) (fun _ => ?_) | refine vIfQ_of (fun _ => ?_) (fun _ => ?_) | refine vIfV_of (fun _ => ?_) (fun _ => ?_) | refine And.intro (by omega) ?_ | refine drawn_q ?_ | fail)
  refine (zrNumber_c k d l i bad w h' hi hl).mono ?_
  rintro _ w1 ⟨rfl, hl1⟩
  have g1 : Chg w w1 [k] := Chg.of_later hl1
  have hR1 := h'.chg (Chg.of_later (ks := []) hl1) (by simp) (by simp)
  have b1 := h1.chg (Chg.of_later (ks := []) hl1) (by simp)
  have hc1 : w1.cell? ⟨k, 1, none⟩ = some (.int .i64 i) := b1.cell 1
  have hc2 : w1.cell? ⟨k, 2, none⟩ = some (.bool bad) := b1.cell 2
  unfold pt
  repeat' (first | (simp (disch := omega) only [push_cast, ↓reduceIte, Nat.reduceEqDiff, Int.reduceToNat, Nat.reducePow, Int.reducePow, Int.reduceNeg, Nat.reduceMul, Int.reduceMul, Int.reduceAdd, Int.reduceSub, Nat.reduceAdd, Nat.reduceSub, Nat.reduceLeDiff, Int.reduceLT, Int.reduceLE, Int.reduceEq, Int.reduceMod, Int.reduceDiv, reduceCtorEq, not_true_eq_false, not_false_eq_true]) | refine vIfE_of (fun _ => ?_) (fun _ => ?_) | refine vIfD_of (fun _ => ?_) (fun _ => ?_) | refine vIfQ_of (fun _ => ?_) (fun _ => ?_) | refine vIfV_of (fun _ => ?_) (fun _ => ?_) | refine And.intro (by omega) ?_ | refine drawn_q ?_ | fail)
  have hu : U64 (numV (l.drop i)).1 := by
    rcases num_numV (l := l.drop i) with ⟨e1, e2⟩ | ⟨u, m, e1, e2, e3, e4, e5⟩
    · rw [e2]; unfold U64; omega
    · rw [e2]; exact e3
  refine (rUnfold_c _ w1 hu).mono ?_
  rintro _ _ ⟨rfl, rfl⟩
  unfold rI
  rcases num_numV (l := l.drop i) with ⟨e1, e2⟩ | ⟨u, m, e1, e2, e3, e4, e5⟩
  · simp only [e1, e2]
    repeat' (first | (simp (disch := omega) only [push_cast, ↓reduceIte, Nat.reduceEqDiff, Int.reduceToNat, Nat.reducePow, Int.reducePow, Int.reduceNeg, Nat.reduceMul, Int.reduceMul, Int.reduceAdd, Int.reduceSub, Nat.reduceAdd, Nat.reduceSub, Nat.reduceLeDiff, Int.reduceLT, Int.reduceLE, Int.reduceEq, Int.reduceMod, Int.reduceDiv, reduceCtorEq, not_true_eq_false, not_false_eq_true, hc1, hc2, addr_add_eq, Nat.zero_add]) | refine vIfE_of (fun _ => ?_) (fun _ => ?_) | refine vIfD_of (fun _ => ?_) (fun _ => ?_) | refine vIfQ_of (fun _ => ?_) (fun _ => ?_) | refine vIfV_of (fun _ => ?_) (fun _ => ?_) | refine And.intro (by omega) ?_ | refine drawn_q ?_ | fail)
    exact ⟨⟨_, rfl⟩, b1.frozen 2, i, true, hR1.setBad true, hi, rfl, g1.set (by simp) _⟩
  · simp only [e1, e2]
    have hu := unfoldI_i64 e3
    unfold I64 at hu
    simp only [List.length_drop] at e5
    have eim : (i : Int) + (m : Int) = ((i + m : Nat) : Int) := by omega
    repeat' (first | (simp (disch := omega) only [push_cast, ↓reduceIte, Nat.reduceEqDiff, Int.reduceToNat, Nat.reducePow, Int.reducePow, Int.reduceNeg, Nat.reduceMul, Int.reduceMul, Int.reduceAdd, Int.reduceSub, Nat.reduceAdd, Nat.reduceSub, Nat.reduceLeDiff, Int.reduceLT, Int.reduceLE, Int.reduceEq, Int.reduceMod, Int.reduceDiv, reduceCtorEq, not_true_eq_false, not_false_eq_true, hc1, hc2, addr_add_eq, Nat.zero_add]) | refine vIfE_of (fun _ => ?_) (fun _ => ?_) | refine vIfD_of (fun _ => ?_) (fun _ => ?_) | refine vIfQ_of (fun _ => ?_) (fun _ => ?_) | refine vIfV_of (fun _ => ?_) (fun _ => ?_) | refine And.intro (by omega) ?_ | refine drawn_q ?_ | fail)
    · rw [if_pos (by omega)]; exact ⟨⟨_, rfl⟩, b1.frozen 2, rfl, i, true, hR1.setBad true, hi, rfl, g1.set (by simp) _⟩
    · rw [if_neg (by omega), eim]; exact ⟨⟨_, rfl⟩, b1.frozen 1, rfl, i + m, bad, hR1.setI (i + m), by omega, by simp, g1.set (by simp) _⟩
    · rw [if_pos (by omega)]; exact ⟨⟨_, rfl⟩, b1.frozen 2, rfl, i, true, hR1.setBad true, hi, rfl, g1.set (by simp) _⟩
theorem Rm.cells {w : World} {k d : Nat} {l : List UInt8} {i : Nat} {bad : Bool} (h : Rm w k d l i bad) : ∃ o c, w.cell? ⟨k, 0, none⟩ = some (.slice o l.length c) ∧ w.cell? ⟨k, 1, none⟩ = some (.int .i64 i) ∧ w.cell? ⟨k, 2, none⟩ = some (.bool bad) ∧ (∀ j, w.frozen? ⟨k, j, none⟩ = false) ∧
    Sl w (.slice o l.length c) (l.map u8v) ∧ inB d (.slice o l.length c) ∧ l.length ≤ c ∧ c ≤ 9223372036854775807 := by
  obtain ⟨o, n, c, h1, h2, h3, h4, h5⟩ := h
  obtain ⟨hn, hnc, hm, hnil⟩ := h2.len
  simp only [List.length_map] at hn
  subst hn
  exact ⟨o, c, h1.cell 0, h1.cell 1, h1.cell 2, h1.frozen, h2, h3, hnc, hm⟩
theorem rI_rT (l : List UInt8) (most : Int) : (rI l 0 most = (0, 11, l) ∧ rT l most = (strOf [], 11, l)) ∨
    ∃ (v : Int) (m : Nat), rI l 0 most = (v, 0, l.drop m) ∧ m ≤ l.length ∧ 0 ≤ v ∧ v ≤ 9223372036854775807 ∧ rT l most = if (l.length : Int) - m < v then (strOf [], 11, l) else (strOf ((l.drop m).take v.toNat), 0, l.drop (m + v.toNat)) := by
  unfold rI rT
  rcases num_next (l := l) with ⟨e1, e2⟩ | ⟨u, m, e1, e2, e3, e4, e5⟩
  · simp [e1]
  · have hu := unfoldI_i64 e3
    unfold I64 at hu
    simp only [e1]
    by_cases h : unfoldI u < 0 ∨ most < unfoldI u
    · left; rw [if_pos h, if_pos (by omega)]; exact ⟨rfl, rfl⟩
    · right
      refine ⟨unfoldI u, m, by rw [if_neg h], e5, by omega, by omega, ?_⟩
      by_cases h2 : (l.length : Int) - m < unfoldI u
      · rw [if_pos h2, if_pos (by omega)]
      · rw [if_neg h2, if_neg (by omega)]
theorem rRBytes_c (k d : Nat) (l : List UInt8) (i : Nat) (bad : Bool) (x : Int) (w : World) (h : Rm w k d l i bad) (hi : i ≤ l.length) (hl : l.length ≤ 140737488355000) :
    FnC Try.prog 59 #[pt k, .int .i64 x] w fun v w' => ∃ y, v = .tuple #[y, .int .i64 (rB (l.drop i) x).2.1] ∧ Sl w' y ((rB (l.drop i) x).1.map u8v) ∧ inB d y ∧
      ∃ j b, Rm w' k d l j b ∧ j ≤ l.length ∧ l.drop j = (rB (l.drop i) x).2.2 ∧ Chg w w' [k] := by
  obtain ⟨o, c, hc0, hc1, hc2, hfz, hs, hin, hnc, hm⟩ := h.cells
  refine enter59 _ _ ?_
  unfold B59
  unfold pt
  have bad' : ∀ w2, Later w w2 → (x < 0 ∨ (l.length : Int) - i < x) → (∃ y, w2.cell? ⟨k, 2, none⟩ = some y) ∧ w2.frozen? ⟨k, 2, none⟩ = false ∧
      ∃ y, Value.tuple #[.slice none 0 0, .int .i64 11] = .tuple #[y, .int .i64 (rB (l.drop i) x).2.1] ∧ Sl (w2.setCell ⟨k, 2, none⟩ (.bool true)) y ((rB (l.drop i) x).1.map u8v) ∧ inB d y ∧
      ∃ j b, Rm (w2.setCell ⟨k, 2, none⟩ (.bool true)) k d l j b ∧ j ≤ l.length ∧ l.drop j = (rB (l.drop i) x).2.2 ∧ Chg w (w2.setCell ⟨k, 2, none⟩ (.bool true)) [k] := by
    intro w2 hl2 hx
    have hR2 := h.chg (Chg.of_later (ks := []) hl2) (by simp) (by simp)
    obtain ⟨o2, c2, m0, m1, m2, mfz, ms, min, mnc, mm⟩ := hR2.cells
    unfold rB
    rw [if_pos (by simp; omega)]
    exact ⟨⟨_, m2⟩, mfz 2, .slice none 0 0, rfl, Sl.nil _, trivial, i, true, hR2.setBad true, hi, rfl, (Chg.of_later hl2).set (by simp) _⟩
  repeat' (first | (simp (disch := omega) only [push_cast, ↓reduceIte, Nat.reduceEqDiff, Int.reduceToNat, Nat.reducePow, Int.reducePow, Int.reduceNeg, Nat.reduceMul, Int.reduceMul, Int.reduceAdd, Int.reduceSub, Nat.reduceAdd, Nat.reduceSub, Nat.reduceLeDiff, Int.reduceLT, Int.reduceLE, Int.reduceEq, Int.reduceMod, Int.reduceDiv, reduceCtorEq, not_true_eq_false, not_false_eq_true, hc0, hc1, hc2, addr_add_eq, Nat.zero_add]) | refine vIfE_of (fun _ => ?_) (fun _ => ?_) | refine vIfD_of (fun _ => ?_) (fun _ => ?_) | refine vIfQ_of (fun _ => ?_) (fun _ => ?_) | refine vIfV_of (fun _ => ?_) (fun _ => ?_) | refine And.intro (by omega) ?_ | refine drawn_q ?_ | fail)
  · intro w2 hl2
    have g2 : Chg w w2 [k] := Chg.of_later hl2
    have hR2 := h.chg (Chg.of_later (ks := []) hl2) (by simp) (by simp)
    obtain ⟨o2, c2, m0, m1, m2, mfz, ms, min, mnc, mm⟩ := hR2.cells
    repeat' (first | (simp (disch := omega) only [push_cast, ↓reduceIte, Nat.reduceEqDiff, Int.reduceToNat, Nat.reducePow, Int.reducePow, Int.reduceNeg, Nat.reduceMul, Int.reduceMul, Int.reduceAdd, Int.reduceSub, Nat.reduceAdd, Nat.reduceSub, Nat.reduceLeDiff, Int.reduceLT, Int.reduceLE, Int.reduceEq, Int.reduceMod, Int.reduceDiv, reduceCtorEq, not_true_eq_false, not_false_eq_true, m0, m1, m2, addr_add_eq, Nat.zero_add]) | refine vIfE_of (fun _ => ?_) (fun _ => ?_) | refine vIfD_of (fun _ => ?_) (fun _ => ?_) | refine vIfQ_of (fun _ => ?_) (fun _ => ?_) | refine vIfV_of (fun _ => ?_) (fun _ => ?_) | refine And.intro (by omega) ?_ | refine drawn_q ?_ | fail)
    · exact ⟨⟨_, rfl⟩, (bad' w2 hl2 (by omega)).2⟩
    · have jv : (i : Int) + x = ((i + x.toNat : Nat) : Int) := by omega
      rw [jv]
      refine ⟨⟨_, rfl⟩, mfz 1, ?_⟩
      have hR3 := hR2.setI (i + x.toNat)
      have g3 := g2.set (k := k) (i := 1) (by simp) (.int .i64 ((i + x.toNat : Nat) : Int))
      generalize w2.setCell ⟨k, 1, none⟩ (.int .i64 ((i + x.toNat : Nat) : Int)) = w3 at *
      obtain ⟨o3, c3, n0, n1, n2, nfz, ns, nin, nnc, nm⟩ := hR3.cells
      rw [← jv] at n1
      have hs := ns.part (l := (i : Int)) (k := (i : Int) + x) (m := c3) (by omega) (by omega) (by omega) (by omega) (by omega)
      rw [map_part l (by omega) (by omega)] at hs
      repeat' (first | (simp (disch := omega) only [push_cast, ↓reduceIte, Nat.reduceEqDiff, Int.reduceToNat, Nat.reducePow, Int.reducePow, Int.reduceNeg, Nat.reduceMul, Int.reduceMul, Int.reduceAdd, Int.reduceSub, Nat.reduceAdd, Nat.reduceSub, Nat.reduceLeDiff, Int.reduceLT, Int.reduceLE, Int.reduceEq, Int.reduceMod, Int.reduceDiv, reduceCtorEq, not_true_eq_false, not_false_eq_true, n0, n1, n2, addr_add_eq, Nat.zero_add, Int.add_sub_cancel]) | refine vIfE_of (fun _ => ?_) (fun _ => ?_) | refine vIfD_of (fun _ => ?_) (fun _ => ?_) | refine vIfQ_of (fun _ => ?_) (fun _ => ?_) | refine vIfV_of (fun _ => ?_) (fun _ => ?_) | refine And.intro (by omega) ?_ | refine drawn_q ?_ | fail)
      intro w4 hl4
      have er : rB (l.drop i) x = ((l.drop i).take x.toNat, 0, (l.drop i).drop x.toNat) := by unfold rB; rw [if_neg (by simp; omega)]
      rw [er]
      refine ⟨_, rfl, ?_, inB_part nin _ _ _ _ _ (by omega), i + x.toNat, bad, hR3.chg (Chg.of_later (ks := []) hl4) (by simp) (by simp), by omega, by simp, g3.trans (Chg.of_later hl4)⟩
      have e : (i : Int) + x - i = x := by omega
      simp only [e, Int.toNat_natCast] at hs ⊢
      exact hs.later hl4
  · intro w2 hl2
    exact bad' w2 hl2 (by omega)
end Go.Proofs.Ytdfdohajjgjbdaa
