/- The contracts of zig's reader. -/
import Derived.Test.YtdfdohajjgjbdaaZig4
set_option linter.unusedSimpArgs false
namespace Go.Proofs.Ytdfdohajjgjbdaa
open Go.Vc Go.Zig

/-- The reader at block k, its bytes in block d. -/
def Rd (w : World) (k d : Nat) (l : List UInt8) : Prop := ∃ o n c, Blk w k #[.slice o n c] 83 ∧ Sl w (.slice o n c) (l.map u8v) ∧ inB d (.slice o n c) ∧ d ≠ k ∧ k < w.heap.size
def pt (k : Nat) : Value := .pointer (some ⟨k, 0, none⟩)
def rI (l : List UInt8) (least most : Int) : Int × Int × List UInt8 := match num l with
  | none => (0, 11, l)
  | some (u, n) => if unfoldI u < least ∨ most < unfoldI u then (0, 11, l) else (unfoldI u, 0, l.drop n)
def rT (l : List UInt8) (most : Int) : ByteArray × Int × List UInt8 := match num l with
  | none => (strOf [], 11, l)
  | some (u, n) => if unfoldI u < 0 ∨ most < unfoldI u ∨ (l.length : Int) - n < unfoldI u then (strOf [], 11, l) else (strOf ((l.drop n).take (unfoldI u).toNat), 0, l.drop (n + (unfoldI u).toNat))
def rB (l : List UInt8) (n : Int) : List UInt8 × Int × List UInt8 := if n < 0 ∨ (l.length : Int) < n then ([], 11, l) else (l.take n.toNat, 0, l.drop n.toNat)

theorem Rd.chg {w w' : World} {k d : Nat} {l : List UInt8} {ks : List Nat} (h : Rd w k d l) (g : Chg w w' ks) (hk : k ∉ ks) (hd : d ∉ ks) : Rd w' k d l := by
  obtain ⟨o, n, c, h1, h2, h3, h4, h5⟩ := h
  exact ⟨o, n, c, h1.chg g hk, h2.chg g hd h3, h3, h4, Nat.lt_of_lt_of_le h5 g.size⟩
/-- What is left, from n on. -/
theorem Rd.drop {w : World} {k d : Nat} {l : List UInt8} {o : Option Addr} {n c : Nat} (h1 : Blk w k #[.slice o n c] 83) (h2 : Sl w (.slice o n c) (l.map u8v)) (h3 : inB d (.slice o n c)) (h4 : d ≠ k) (h5 : k < w.heap.size) {j : Int} (h0 : 0 ≤ j) (hj : j ≤ l.length) :
    Rd (w.setCell ⟨k, 0, none⟩ (.slice (slAddr o j c 1) (n - j).toNat (c - j).toNat)) k d (l.drop j.toNat) := by
  obtain ⟨hn, hc, hm, _⟩ := h2.len
  simp only [List.length_map] at hn
  refine ⟨_, _, _, by simpa using h1.set 0 (.slice (slAddr o j c 1) (n - j).toNat (c - j).toNat), ?_, inB_part h3 _ _ _ _ _ (by omega), h4, by simpa [World.setCell] using h5⟩
  have h := h2.part (l := j) (k := n) (m := c) h0 (by omega) (by omega) (by omega) (by omega)
  refine Sl.chg (k := d) (ks := [k]) ?_ (chg_setCell w (by simp) _) (by simpa using h4) (inB_part h3 _ _ _ _ _ (by omega))
  have e : (((l.map u8v).take ((n : Int).toNat)).drop j.toNat) = (l.drop j.toNat).map u8v := by
    rw [Int.toNat_natCast, List.take_of_length_le (by simp; omega), List.map_drop]
  rw [e] at h
  exact h
theorem map_part (l : List UInt8) {j k : Int} (h0 : 0 ≤ j) (hk : j ≤ k) : ((l.map u8v).take k.toNat).drop j.toNat = ((l.drop j.toNat).take (k - j).toNat).map u8v := by
  rw [List.drop_take, List.map_take, List.map_drop]
  congr 1; omega
theorem num_next {l : List UInt8} : (num l = none ∧ nextV l = (0, 0)) ∨ ∃ u n, num l = some (u, n) ∧ nextV l = (unfoldI u, (n : Int)) ∧ U64 u ∧ 0 < n ∧ n ≤ l.length := by
  unfold nextV
  cases h : num l with
  | none => exact .inl ⟨rfl, rfl⟩
  | some p =>
    obtain ⟨u, n⟩ := p
    have := num_some h
    exact .inr ⟨u, n, rfl, rfl, by unfold U64; omega, by omega, by omega⟩
theorem zRInt_c (k d : Nat) (l : List UInt8) (least most : Int) (w : World) (h : Rd w k d l) :
    FnC Try.prog 51 #[pt k, .int .i64 least, .int .i64 most] w fun v w' => v = .tuple #[.int .i64 (rI l least most).1, .int .i64 (rI l least most).2.1] ∧ Rd w' k d (rI l least most).2.2 ∧ Chg w w' [k] := by
  obtain ⟨o, n, c, h1, h2, h3, h4, h5⟩ := h
  have hc : w.cell? ⟨k, 0, none⟩ = some (.slice o n c) := h1.cell 0
  have hf := h1.frozen 0
  obtain ⟨hn, hnc, hm, _⟩ := h2.len
  unfold maxLen at hm
  simp only [List.length_map] at hn
  have hR : Rd w k d l := ⟨o, n, c, h1, h2, h3, h4, h5⟩
  refine enter51 _ _ _ ?_
  unfold B51 pt
  simp (disch := omega) only [push_cast, ↓reduceIte, Nat.reduceEqDiff, Int.reduceToNat, Nat.reducePow, Int.reducePow, Int.reduceNeg, Nat.reduceMul, Int.reduceMul, Int.reduceAdd, Int.reduceSub, Nat.reduceAdd, Nat.reduceSub, Nat.reduceLeDiff, Int.reduceLT, Int.reduceLE, Int.reduceEq, Int.reduceMod, Int.reduceDiv, reduceCtorEq, not_true_eq_false, not_false_eq_true, hc]
  refine (zNext_c _ l w h2).mono ?_
  rintro _ _ ⟨rfl, rfl⟩
  unfold rI
  rcases num_next (l := l) with ⟨e1, e2⟩ | ⟨u, m, e1, e2, e3, e4, e5⟩
  · simp only [e1, e2]
    repeat' (first | (simp (disch := omega) only [push_cast, ↓reduceIte, Nat.reduceEqDiff, Int.reduceToNat, Nat.reducePow, Int.reducePow, Int.reduceNeg, Nat.reduceMul, Int.reduceMul, Int.reduceAdd, Int.reduceSub, Nat.reduceAdd, Nat.reduceSub, Nat.reduceLeDiff, Int.reduceLT, Int.reduceLE, Int.reduceEq, Int.reduceMod, Int.reduceDiv, reduceCtorEq, not_true_eq_false, not_false_eq_true, hc]) | refine vIfE_of (fun _ => ?_) (fun _ => ?_) | refine vIfD_of (fun _ => ?_) (fun _ => ?_) | refine vIfQ_of (fun _ => ?_) (fun _ => ?_) | refine vIfV_of (fun _ => ?_) (fun _ => ?_) | refine And.intro (by omega) ?_ | refine drawn_q ?_ | fail)
    exact Chg.refl _ _
  · simp only [e1, e2]
    have hu := unfoldI_i64 e3
    unfold I64 at hu
    repeat' (first | (simp (disch := omega) only [push_cast, ↓reduceIte, Nat.reduceEqDiff, Int.reduceToNat, Nat.reducePow, Int.reducePow, Int.reduceNeg, Nat.reduceMul, Int.reduceMul, Int.reduceAdd, Int.reduceSub, Nat.reduceAdd, Nat.reduceSub, Nat.reduceLeDiff, Int.reduceLT, Int.reduceLE, Int.reduceEq, Int.reduceMod, Int.reduceDiv, reduceCtorEq, not_true_eq_false, not_false_eq_true, hc]) | refine vIfE_of (fun _ => ?_) (fun _ => ?_) | refine vIfD_of (fun _ => ?_) (fun _ => ?_) | refine vIfQ_of (fun _ => ?_) (fun _ => ?_) | refine vIfV_of (fun _ => ?_) (fun _ => ?_) | refine And.intro (by omega) ?_ | refine drawn_q ?_ | fail)
    · rw [if_pos (by omega)]; exact ⟨rfl, hR, Chg.refl _ _⟩
    · rw [if_neg (by omega)]; exact ⟨⟨_, rfl⟩, hf, rfl, Rd.drop h1 h2 h3 h4 h5 (by omega) (by omega), chg_setCell _ (by simp) _⟩
    · rw [if_pos (by omega)]; exact ⟨rfl, hR, Chg.refl _ _⟩
theorem zRLeft_c (k d : Nat) (l : List UInt8) (w : World) (h : Rd w k d l) :
    FnC Try.prog 54 #[pt k] w fun v w' => v = .int .i64 l.length ∧ w' = w := by
  obtain ⟨o, n, c, h1, h2, h3, h4, h5⟩ := h
  have hc : w.cell? ⟨k, 0, none⟩ = some (.slice o n c) := h1.cell 0
  obtain ⟨hn, hnc, hm, _⟩ := h2.len
  simp only [List.length_map] at hn
  refine enter54 _ ?_
  unfold B54 pt
  repeat' (first | (simp (disch := omega) only [push_cast, ↓reduceIte, Nat.reduceEqDiff, Int.reduceToNat, Nat.reducePow, Int.reducePow, Int.reduceNeg, Nat.reduceMul, Int.reduceMul, Int.reduceAdd, Int.reduceSub, Nat.reduceAdd, Nat.reduceSub, Nat.reduceLeDiff, Int.reduceLT, Int.reduceLE, Int.reduceEq, Int.reduceMod, Int.reduceDiv, reduceCtorEq, not_true_eq_false, not_false_eq_true, hc]) | refine vIfE_of (fun _ => ?_) (fun _ => ?_) | refine vIfD_of (fun _ => ?_) (fun _ => ?_) | refine vIfQ_of (fun _ => ?_) (fun _ => ?_) | refine vIfV_of (fun _ => ?_) (fun _ => ?_) | refine And.intro (by omega) ?_ | refine drawn_q ?_ | fail)
  rw [hn]
theorem zRBytes_c (k d : Nat) (l : List UInt8) (j : Int) (w : World) (h : Rd w k d l) (hl : l.length ≤ 140737488355000) :
    FnC Try.prog 53 #[pt k, .int .i64 j] w fun v w' => ∃ b, v = .tuple #[b, .int .i64 (rB l j).2.1] ∧ OwnB w' w.heap.size 5 b (rB l j).1 ∧ Rd w' k d (rB l j).2.2 ∧ Chg w w' [k] := by
  obtain ⟨o, n, c, h1, h2, h3, h4, h5⟩ := h
  have hc : w.cell? ⟨k, 0, none⟩ = some (.slice o n c) := h1.cell 0
  have hf := h1.frozen 0
  obtain ⟨hn, hnc, hm, _⟩ := h2.len
  unfold maxLen at hm
  simp only [List.length_map] at hn
  have hR : Rd w k d l := ⟨o, n, c, h1, h2, h3, h4, h5⟩
  refine enter53 _ _ ?_
  unfold B53 pt
  repeat' (first | (simp (disch := omega) only [push_cast, ↓reduceIte, Nat.reduceEqDiff, Int.reduceToNat, Nat.reducePow, Int.reducePow, Int.reduceNeg, Nat.reduceMul, Int.reduceMul, Int.reduceAdd, Int.reduceSub, Nat.reduceAdd, Nat.reduceSub, Nat.reduceLeDiff, Int.reduceLT, Int.reduceLE, Int.reduceEq, Int.reduceMod, Int.reduceDiv, reduceCtorEq, not_true_eq_false, not_false_eq_true, hc]) | refine vIfE_of (fun _ => ?_) (fun _ => ?_) | refine vIfD_of (fun _ => ?_) (fun _ => ?_) | refine vIfQ_of (fun _ => ?_) (fun _ => ?_) | refine vIfV_of (fun _ => ?_) (fun _ => ?_) | refine And.intro (by omega) ?_ | refine drawn_q ?_ | fail)
  · unfold rB; rw [if_pos (by omega)]; exact ⟨_, rfl, own_nil _ _ _ _, hR, Chg.refl _ _⟩
  · have hs := h2.part (l := 0) (k := j) (m := c) (by omega) (by omega) (by omega) (by omega) (by omega)
    rw [map_part l (by omega) (by omega)] at hs
    have hs' : Sl w (.slice o j.toNat c) ((l.take j.toNat).map u8v) := by
      simp only [Int.sub_zero, Int.toNat_zero, List.drop_zero, Int.toNat_natCast] at hs
      unfold slAddr at hs
      split at hs
      · exact hs
      · cases o with
        | none => exact hs
        | some a => simpa [addr_add_zero] using hs
    refine (clone_c _ _ w hs' (by simp; omega)).mono ?_
    rintro b w1 ⟨hb, hl1⟩
    have g1 : Chg w w1 [] := Chg.of_later hl1
    have h1' := h1.chg g1 (by simp)
    have h2' := h2.later hl1
    have hc' : w1.cell? ⟨k, 0, none⟩ = some (.slice o n c) := h1'.cell 0
    repeat' (first | (simp (disch := omega) only [push_cast, ↓reduceIte, Nat.reduceEqDiff, Int.reduceToNat, Nat.reducePow, Int.reducePow, Int.reduceNeg, Nat.reduceMul, Int.reduceMul, Int.reduceAdd, Int.reduceSub, Nat.reduceAdd, Nat.reduceSub, Nat.reduceLeDiff, Int.reduceLT, Int.reduceLE, Int.reduceEq, Int.reduceMod, Int.reduceDiv, reduceCtorEq, not_true_eq_false, not_false_eq_true, hc']) | refine vIfE_of (fun _ => ?_) (fun _ => ?_) | refine vIfD_of (fun _ => ?_) (fun _ => ?_) | refine vIfQ_of (fun _ => ?_) (fun _ => ?_) | refine vIfV_of (fun _ => ?_) (fun _ => ?_) | refine And.intro (by omega) ?_ | refine drawn_q ?_ | fail)
    refine ⟨⟨_, rfl⟩, h1'.frozen 0, b, ?_, ?_, ?_, (Chg.of_later hl1).set (by simp) _⟩
    · unfold rB; rw [if_neg (by omega)]
    · unfold rB; rw [if_neg (by omega)]
      exact own_chg hb (chg_setCell w1 (ks := [k]) (by simp) _) (by simpa using h5)
    · unfold rB; rw [if_neg (by omega)]
      exact Rd.drop h1' h2' h3 h4 h1'.lt (by omega) (by omega)
  · unfold rB; rw [if_pos (by omega)]; exact ⟨_, rfl, own_nil _ _ _ _, hR, Chg.refl _ _⟩
theorem zOpen_c (b : Value) (l : List UInt8) (w : World) (hb : Sl w b (l.map u8v)) (hl : l.length ≤ 140737488355000) :
    FnC Try.prog 50 #[b] w fun v w' => ∃ k d, v = pt k ∧ Rd w' k d l ∧ w.heap.size ≤ k ∧ w.heap.size ≤ d ∧ Later w w' := by
  refine enter50 _ ?_
  unfold B50
  repeat' (first | (simp (disch := omega) only [push_cast, ↓reduceIte, Nat.reduceEqDiff, Int.reduceToNat, Nat.reducePow, Int.reducePow, Int.reduceNeg, Nat.reduceMul, Int.reduceMul, Int.reduceAdd, Int.reduceSub, Nat.reduceAdd, Nat.reduceSub, Nat.reduceLeDiff, Int.reduceLT, Int.reduceLE, Int.reduceEq, Int.reduceMod, Int.reduceDiv, reduceCtorEq, not_true_eq_false, not_false_eq_true]) | refine vIfE_of (fun _ => ?_) (fun _ => ?_) | refine vIfD_of (fun _ => ?_) (fun _ => ?_) | refine vIfQ_of (fun _ => ?_) (fun _ => ?_) | refine vIfV_of (fun _ => ?_) (fun _ => ?_) | refine And.intro (by omega) ?_ | refine drawn_q ?_ | fail)
  refine (clone_c _ _ w hb hl).mono ?_
  rintro v w1 ⟨ho, hl1⟩
  obtain ⟨o, c, rfl⟩ := ho.slice
  obtain ⟨d, hd, hd1, hd2⟩ := own_in ho
  repeat' (first | (simp (disch := omega) only [push_cast, ↓reduceIte, Nat.reduceEqDiff, Int.reduceToNat, Nat.reducePow, Int.reducePow, Int.reduceNeg, Nat.reduceMul, Int.reduceMul, Int.reduceAdd, Int.reduceSub, Nat.reduceAdd, Nat.reduceSub, Nat.reduceLeDiff, Int.reduceLT, Int.reduceLE, Int.reduceEq, Int.reduceMod, Int.reduceDiv, reduceCtorEq, not_true_eq_false, not_false_eq_true]) | refine vIfE_of (fun _ => ?_) (fun _ => ?_) | refine vIfD_of (fun _ => ?_) (fun _ => ?_) | refine vIfQ_of (fun _ => ?_) (fun _ => ?_) | refine vIfV_of (fun _ => ?_) (fun _ => ?_) | refine And.intro (by omega) ?_ | refine drawn_q ?_ | fail)
  have g : Later w1 (w1.alloc (.cells (Value.agg #[Value.slice o l.length c]).cells 83)) := later_alloc _ _
  by_cases hlt : d < w1.heap.size
  · exact ⟨w1.heap.size, d, rfl, ⟨o, _, c, Blk.new _ _ _, ho.sl.later g, hd2, by omega, by simp⟩, hl1.size, hd1, hl1.alloc _⟩
  · cases o with
    | none => exact ⟨w1.heap.size, w1.heap.size + 1, rfl, ⟨none, _, c, Blk.new _ _ _, ho.sl.later g, trivial, by omega, by simp⟩, hl1.size, by have := hl1.size; omega, hl1.alloc _⟩
    | some a =>
      by_cases hn0 : l.length = 0
      · exact ⟨w1.heap.size, w1.heap.size + 1, rfl, ⟨some a, _, c, Blk.new _ _ _, ho.sl.later g, .inl hn0, by omega, by simp⟩, hl1.size, by have := hl1.size; omega, hl1.alloc _⟩
      exfalso
      obtain ⟨_, ho⟩ := ho
      rcases ho with ⟨h, _⟩ | ⟨g, cap, cur, h, hb, hh, _⟩
      · cases h
      · simp only [Value.slice.injEq, Option.some.injEq] at h
        obtain ⟨rfl, _⟩ := h
        have := Blk.lt hh
        simp only [inB] at hd2
        omega
/-- The data's block may be taken away from a new one. -/
theorem Rd.away {w : World} {k d : Nat} {l : List UInt8} (h : Rd w k d l) {m : Nat} (hm : w.heap.size ≤ m) : ∃ d', d' ≠ m ∧ Rd w k d' l := by
  obtain ⟨o, n, c, h1, h2, h3, h4, h5⟩ := h
  rcases inB_lt h2 with h | ⟨k0, hk0, h⟩
  · exact ⟨m + 1, by omega, o, n, c, h1, h2, h _, by omega, h5⟩
  · cases o with
    | none => exact ⟨m + 1, by omega, none, n, c, h1, h2, trivial, by omega, h5⟩
    | some a =>
      by_cases hn : n = 0
      · exact ⟨m + 1, by omega, some a, n, c, h1, h2, .inl hn, by omega, h5⟩
      · have e1 : a.block = k0 := h.resolve_left hn
        have e2 : a.block = d := h3.resolve_left hn
        exact ⟨d, by omega, some a, n, c, h1, h2, h3, h4, h5⟩
end Go.Proofs.Ytdfdohajjgjbdaa
