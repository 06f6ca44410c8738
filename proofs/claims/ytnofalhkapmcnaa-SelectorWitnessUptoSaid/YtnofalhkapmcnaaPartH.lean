/- Small contracts of the document's: granularities, ages, bounds. -/
import Derived.Test.YtnofalhkapmcnaaPartG
set_option linter.all false
open Nat renaming reduceEqDiff → zA, reducePow → zB, reduceMul → zC, reduceAdd → zD, reduceSub → zE, reduceLeDiff → zF
open Int renaming reduceToNat → zG, reducePow → zH, reduceNeg → zI, reduceMul → zJ, reduceAdd → zK, reduceSub → zL, reduceLT → zM, reduceLE → zN, reduceEq → zO, reduceMod → zP, reduceDiv → zQ
section
set_option linter.unusedSimpArgs false
namespace Go.Proofs.Ytnofalhkapmcnaa
open Go.Vc Go.Key
set_option maxRecDepth 100000
theorem within_c (n a b : Int) (w : World) : FnC Try.prog 57 #[.int .i64 n, .int .i64 a, .int .i64 b] w fun r w' => r = .bool (decide (a ≤ n) && decide (n ≤ b)) ∧ w' = w := by
  refine enter57 _ _ _ ?_
  unfold B57
  by_cases h1 : a ≤ n
  · have e1 : decide (a ≤ n) = true := decide_eq_true h1
    repeat' (first | (simp (disch := omega) only [push_cast, ↓reduceIte, zA, zG, zB, zH, zI, zC, zJ, zK, zL, zD, zE, zF, zM, zN, zO, zP, zQ, reduceCtorEq, not_true_eq_false, not_false_eq_true, e1]) | (first | refine iE ?_ ?_ | refine iD ?_ ?_ | refine iQ ?_ ?_ | refine iV ?_ ?_) <;> intro _ | refine And.intro (by omega) ?_ | refine drawn_q ?_ | fail)
    first | done | exact ⟨by simp, rfl⟩ | simp
  · have e1 : decide (a ≤ n) = false := decide_eq_false h1
    repeat' (first | (simp (disch := omega) only [push_cast, ↓reduceIte, zA, zG, zB, zH, zI, zC, zJ, zK, zL, zD, zE, zF, zM, zN, zO, zP, zQ, reduceCtorEq, not_true_eq_false, not_false_eq_true, e1]) | (first | refine iE ?_ ?_ | refine iD ?_ ?_ | refine iQ ?_ ?_ | refine iV ?_ ?_) <;> intro _ | refine And.intro (by omega) ?_ | refine drawn_q ?_ | fail)
    first | done | exact ⟨by simp, rfl⟩ | simp
theorem age_c (n : Int) (w : World) : FnC Try.prog 88 #[.int .i64 n] w fun r w' => r = .bool (decide (0 ≤ n) && decide (n ≤ 1099511627776)) ∧ w' = w := by
  refine enter88 _ ?_
  unfold B88
  by_cases h1 : 0 ≤ n
  · have e1 : decide (0 ≤ n) = true := decide_eq_true h1
    repeat' (first | (simp (disch := omega) only [push_cast, ↓reduceIte, zA, zG, zB, zH, zI, zC, zJ, zK, zL, zD, zE, zF, zM, zN, zO, zP, zQ, reduceCtorEq, not_true_eq_false, not_false_eq_true, e1]) | (first | refine iE ?_ ?_ | refine iD ?_ ?_ | refine iQ ?_ ?_ | refine iV ?_ ?_) <;> intro _ | refine And.intro (by omega) ?_ | refine drawn_q ?_ | fail)
    first | done | exact ⟨by simp, rfl⟩ | simp
  · have e1 : decide (0 ≤ n) = false := decide_eq_false h1
    repeat' (first | (simp (disch := omega) only [push_cast, ↓reduceIte, zA, zG, zB, zH, zI, zC, zJ, zK, zL, zD, zE, zF, zM, zN, zO, zP, zQ, reduceCtorEq, not_true_eq_false, not_false_eq_true, e1]) | (first | refine iE ?_ ?_ | refine iD ?_ ?_ | refine iQ ?_ ?_ | refine iV ?_ ?_) <;> intro _ | refine And.intro (by omega) ?_ | refine drawn_q ?_ | fail)
    first | done | exact ⟨by simp, rfl⟩ | simp
end Go.Proofs.Ytnofalhkapmcnaa
end
section
set_option linter.unusedSimpArgs false
namespace Go.Proofs.Ytnofalhkapmcnaa
open Go.Vc Go.Key
set_option maxRecDepth 100000
theorem cdC_len (c : CD) : (cdC c).length = 3 := rfl
def f17 (p : PD) : Bool := decide (p.tl.length ≤ 20) && decide (p.pl.length ≤ 20) && p.tl.all (fun c => decide (F10 c.dl)) && p.pl.all (fun c => decide (F10 c.dl))
theorem pdAt {w : World} {k : Nat} {p : PD} (h : Blk w k (pdC p).toArray 28) : w.cell? ⟨k, 0, none⟩ = some p.tv ∧ w.cell? ⟨k, 1, none⟩ = some p.pv ∧ w.cell? ⟨k, 2, none⟩ = some (.int .i64 p.hz) := ⟨h.cell 0, h.cell 1, h.cell 2⟩
theorem pdLater {w w' : World} {k : Nat} {p : PD} (h : Blk w k (pdC p).toArray 28) (hl : Later w w') : Blk w' k (pdC p).toArray 28 := h.chg (Chg.of_later (ks := []) hl) (by simp)
theorem bz_le {l : List ByteArray} (h : ∀ s ∈ l, s.size ≤ Bz) : ∀ s ∈ l, s.size ≤ 9223372036854775807 := fun s hs => Nat.le_trans (h s hs) (by unfold Bz; omega)
set_option maxHeartbeats 1000000 in
theorem fits17_c (p : PD) (w : World) (hp : p.Ok w) : FnC Try.prog 54 #[.agg (pdC p).toArray] w fun v w' => v = .bool (f17 p) ∧ Later w w' := by
  obtain ⟨to, tc, htv, ht1, ht2⟩ := RecS.slice hp.tv
  obtain ⟨po, pc, hpv, hp1, hp2⟩ := RecS.slice hp.pv
  refine enter54 _ ?_
  unfold B54
  have eca : (Value.agg (pdC p).toArray).cells = (pdC p).toArray := rfl
  have l1 := later_alloc w (.cells (pdC p).toArray 28)
  have B1 := Blk.new w (pdC p).toArray 28
  repeat' (first | (simp (disch := omega) only [push_cast, ↓reduceIte, zA, zG, zB, zH, zI, zC, zJ, zK, zL, zD, zE, zF, zM, zN, zO, zP, zQ, reduceCtorEq, not_true_eq_false, not_false_eq_true, eca]) | (first | refine iE ?_ ?_ | refine iD ?_ ?_ | refine iQ ?_ ?_ | refine iV ?_ ?_) <;> intro _ | refine And.intro (by omega) ?_ | refine drawn_q ?_ | fail)
  generalize w.alloc (.cells (pdC p).toArray 28) = w1 at *
  generalize w.heap.size = kf at *
  obtain ⟨a0, a1, a2⟩ := pdAt B1
  rw [htv] at a0
  rw [hpv] at a1
  by_cases k1 : p.tl.length ≤ 20
  case neg =>
    have e1 : decide (20 < (p.tl.length : Int)) = true := decide_eq_true (by omega)
    have hf : f17 p = false := by unfold f17; rw [decide_eq_false k1]; simp
    rw [hf]
    repeat' (first | (simp (disch := omega) only [push_cast, ↓reduceIte, zA, zG, zB, zH, zI, zC, zJ, zK, zL, zD, zE, zF, zM, zN, zO, zP, zQ, reduceCtorEq, not_true_eq_false, not_false_eq_true, a0, a1, e1, addr_add_eq, Nat.zero_add]) | (first | refine iE ?_ ?_ | refine iD ?_ ?_ | refine iQ ?_ ?_ | refine iV ?_ ?_) <;> intro _ | refine And.intro (by omega) ?_ | refine drawn_q ?_ | fail)
    first | exact ⟨rfl, l1⟩ | exact l1
  have e1 : decide (20 < (p.tl.length : Int)) = false := decide_eq_false (by omega)
  by_cases k2 : p.pl.length ≤ 20
  case neg =>
    have e2 : decide (20 < (p.pl.length : Int)) = true := decide_eq_true (by omega)
    have hf : f17 p = false := by unfold f17; rw [decide_eq_false k2]; simp
    rw [hf]
    repeat' (first | (simp (disch := omega) only [push_cast, ↓reduceIte, zA, zG, zB, zH, zI, zC, zJ, zK, zL, zD, zE, zF, zM, zN, zO, zP, zQ, reduceCtorEq, not_true_eq_false, not_false_eq_true, a0, a1, e1, e2, addr_add_eq, Nat.zero_add]) | (first | refine iE ?_ ?_ | refine iD ?_ ?_ | refine iQ ?_ ?_ | refine iV ?_ ?_) <;> intro _ | refine And.intro (by omega) ?_ | refine drawn_q ?_ | fail)
    first | exact ⟨rfl, l1⟩ | exact l1
  have e2 : decide (20 < (p.pl.length : Int)) = false := decide_eq_false (by omega)
  have hf : f17 p = (p.tl.all (fun c => decide (F10 c.dl)) && p.pl.all (fun c => decide (F10 c.dl))) := by
    unfold f17; rw [decide_eq_true k1, decide_eq_true k2]; simp
  rw [hf]
  repeat' (first | (simp (disch := omega) only [push_cast, ↓reduceIte, zA, zG, zB, zH, zI, zC, zJ, zK, zL, zD, zE, zF, zM, zN, zO, zP, zQ, reduceCtorEq, not_true_eq_false, not_false_eq_true, a0, a1, e1, e2, addr_add_eq, Nat.zero_add]) | (first | refine iE ?_ ?_ | refine iD ?_ ?_ | refine iQ ?_ ?_ | refine iV ?_ ?_) <;> intro _ | refine And.intro (by omega) ?_ | refine drawn_q ?_ | fail)
  refine vc_loop W54_0 (fun i : Nat => [(2, .bool false), (3, .int .i64 (i : Int))]) (fun i w' => i ≤ p.tl.length ∧ Later w1 w' ∧ (p.tl.take i).all (fun c => decide (F10 c.dl)) = true) (fun i => p.tl.length - i) 0 (by decide) ?_ ?_ ?_
  · simp (disch := omega) only [push_cast, ↓reduceIte, zA, zG, zB, zH, zI, zC, zJ, zK, zL, zD, zE, zF, zM, zN, zO, zP, zQ, reduceCtorEq, not_true_eq_false, not_false_eq_true]
  · exact ⟨Nat.zero_le _, Later.refl _, rfl⟩
  rintro i uu w2 ⟨hi, l2, hall⟩
  obtain ⟨b0, b1, b2⟩ := pdAt (pdLater B1 l2)
  rw [htv] at b0
  rw [hpv] at b1
  have l02 := l1.trans l2
  by_cases hik : i < p.tl.length
  · have hd2 : decide ((i : Int) < (p.tl.length : Int)) = true := decide_eq_true (by omega)
    have h4 := (hp.later l02).tv
    rw [htv] at h4
    obtain ⟨a, rfl, _⟩ := RecS.at cdC_len h4 hik
    have fa : w2.cell? ((a.add (i * 3)).add 2) = some (p.tl[i]).dv := RecS.cell (j := 2) cdC_len h4 hik rfl
    have hk := ((hp.later l02).tl _ (List.getElem_mem hik))
    have hst : (p.tl.take (i + 1)).all (fun c => decide (F10 c.dl)) = decide (F10 (p.tl[i]).dl) := by
      rw [List.take_succ_eq_append_getElem hik, List.all_append, hall]; simp
    have hf0 : decide (F10 (p.tl[i]).dl) = false → p.tl.all (fun c => decide (F10 c.dl)) = false := fun h => by
      rw [List.all_eq_false]
      exact ⟨_, List.getElem_mem hik, by simpa using h⟩
    repeat' (first | (simp (disch := omega) only [push_cast, ↓reduceIte, zA, zG, zB, zH, zI, zC, zJ, zK, zL, zD, zE, zF, zM, zN, zO, zP, zQ, reduceCtorEq, not_true_eq_false, not_false_eq_true, b0, hd2, fa, addr_add_eq, Nat.zero_add]) | (first | refine iE ?_ ?_ | refine iD ?_ ?_ | refine iQ ?_ ?_ | refine iV ?_ ?_) <;> intro _ | refine And.intro (by omega) ?_ | refine drawn_q ?_ | fail)
    refine (fits10_c _ _ w2 hk.dv (bz_le hk.dl)).mono ?_
    rintro _ w0 ⟨rfl, h0⟩; obtain rfl := h0.symm
    cases hin : decide (F10 (p.tl[i]).dl) with
    | true =>
      repeat' (first | (simp (disch := omega) only [push_cast, ↓reduceIte, zA, zG, zB, zH, zI, zC, zJ, zK, zL, zD, zE, zF, zM, zN, zO, zP, zQ, reduceCtorEq, not_true_eq_false, not_false_eq_true]) | (first | refine iE ?_ ?_ | refine iD ?_ ?_ | refine iQ ?_ ?_ | refine iV ?_ ?_) <;> intro _ | refine And.intro (by omega) ?_ | refine drawn_q ?_ | fail)
      exact ⟨rfl, i + 1, by simp (disch := omega) only [push_cast, ↓reduceIte, zA, zG, zB, zH, zI, zC, zJ, zK, zL, zD, zE, zF, zM, zN, zO, zP, zQ, reduceCtorEq, not_true_eq_false, not_false_eq_true], ⟨by omega, l2, by rw [hst, hin]⟩, by dsimp only; omega⟩
    | false =>
      rw [hf0 hin]
      repeat' (first | (simp (disch := omega) only [push_cast, ↓reduceIte, zA, zG, zB, zH, zI, zC, zJ, zK, zL, zD, zE, zF, zM, zN, zO, zP, zQ, reduceCtorEq, not_true_eq_false, not_false_eq_true]) | (first | refine iE ?_ ?_ | refine iD ?_ ?_ | refine iQ ?_ ?_ | refine iV ?_ ?_) <;> intro _ | refine And.intro (by omega) ?_ | refine drawn_q ?_ | fail)
      first | exact ⟨(by simp), l02⟩ | exact l02
  have hd2 : decide ((i : Int) < (p.tl.length : Int)) = false := decide_eq_false (by omega)
  rw [List.take_of_length_le (by omega)] at hall
  rw [hall, Bool.true_and]
  repeat' (first | (simp (disch := omega) only [push_cast, ↓reduceIte, zA, zG, zB, zH, zI, zC, zJ, zK, zL, zD, zE, zF, zM, zN, zO, zP, zQ, reduceCtorEq, not_true_eq_false, not_false_eq_true, b0, b1, hd2, addr_add_eq, Nat.zero_add]) | (first | refine iE ?_ ?_ | refine iD ?_ ?_ | refine iQ ?_ ?_ | refine iV ?_ ?_) <;> intro _ | refine And.intro (by omega) ?_ | refine drawn_q ?_ | fail)
  clear hi b0 b1 b2 hd2 hall
  refine vc_loop W54_1 (fun i : Nat => [(2, .bool false), (5, .int .i64 (i : Int))]) (fun i w' => i ≤ p.pl.length ∧ Later w2 w' ∧ (p.pl.take i).all (fun c => decide (F10 c.dl)) = true) (fun i => p.pl.length - i) 0 (by decide) ?_ ?_ ?_
  · simp (disch := omega) only [push_cast, ↓reduceIte, zA, zG, zB, zH, zI, zC, zJ, zK, zL, zD, zE, zF, zM, zN, zO, zP, zQ, reduceCtorEq, not_true_eq_false, not_false_eq_true]
  · exact ⟨Nat.zero_le _, Later.refl _, rfl⟩
  rintro i uu w3 ⟨hi, l3, hall⟩
  have l03 := l02.trans l3
  obtain ⟨b0, b1, b2⟩ := pdAt (pdLater B1 (l2.trans l3))
  rw [hpv] at b1
  by_cases hik : i < p.pl.length
  · have hd2 : decide ((i : Int) < (p.pl.length : Int)) = true := decide_eq_true (by omega)
    have h4 := (hp.later l03).pv
    rw [hpv] at h4
    obtain ⟨a, rfl, _⟩ := RecS.at cdC_len h4 hik
    have fa : w3.cell? ((a.add (i * 3)).add 2) = some (p.pl[i]).dv := RecS.cell (j := 2) cdC_len h4 hik rfl
    have hk := ((hp.later l03).pl _ (List.getElem_mem hik))
    have hst : (p.pl.take (i + 1)).all (fun c => decide (F10 c.dl)) = decide (F10 (p.pl[i]).dl) := by
      rw [List.take_succ_eq_append_getElem hik, List.all_append, hall]; simp
    have hf0 : decide (F10 (p.pl[i]).dl) = false → p.pl.all (fun c => decide (F10 c.dl)) = false := fun h => by
      rw [List.all_eq_false]
      exact ⟨_, List.getElem_mem hik, by simpa using h⟩
    repeat' (first | (simp (disch := omega) only [push_cast, ↓reduceIte, zA, zG, zB, zH, zI, zC, zJ, zK, zL, zD, zE, zF, zM, zN, zO, zP, zQ, reduceCtorEq, not_true_eq_false, not_false_eq_true, b1, hd2, fa, addr_add_eq, Nat.zero_add]) | (first | refine iE ?_ ?_ | refine iD ?_ ?_ | refine iQ ?_ ?_ | refine iV ?_ ?_) <;> intro _ | refine And.intro (by omega) ?_ | refine drawn_q ?_ | fail)
    refine (fits10_c _ _ w3 hk.dv (bz_le hk.dl)).mono ?_
    rintro _ w0 ⟨rfl, h0⟩; obtain rfl := h0.symm
    cases hin : decide (F10 (p.pl[i]).dl) with
    | true =>
      repeat' (first | (simp (disch := omega) only [push_cast, ↓reduceIte, zA, zG, zB, zH, zI, zC, zJ, zK, zL, zD, zE, zF, zM, zN, zO, zP, zQ, reduceCtorEq, not_true_eq_false, not_false_eq_true]) | (first | refine iE ?_ ?_ | refine iD ?_ ?_ | refine iQ ?_ ?_ | refine iV ?_ ?_) <;> intro _ | refine And.intro (by omega) ?_ | refine drawn_q ?_ | fail)
      exact ⟨rfl, i + 1, by simp (disch := omega) only [push_cast, ↓reduceIte, zA, zG, zB, zH, zI, zC, zJ, zK, zL, zD, zE, zF, zM, zN, zO, zP, zQ, reduceCtorEq, not_true_eq_false, not_false_eq_true], ⟨by omega, l3, by rw [hst, hin]⟩, by dsimp only; omega⟩
    | false =>
      rw [hf0 hin]
      repeat' (first | (simp (disch := omega) only [push_cast, ↓reduceIte, zA, zG, zB, zH, zI, zC, zJ, zK, zL, zD, zE, zF, zM, zN, zO, zP, zQ, reduceCtorEq, not_true_eq_false, not_false_eq_true]) | (first | refine iE ?_ ?_ | refine iD ?_ ?_ | refine iQ ?_ ?_ | refine iV ?_ ?_) <;> intro _ | refine And.intro (by omega) ?_ | refine drawn_q ?_ | fail)
      first | exact ⟨rfl, l03⟩ | exact l03
  have hd2 : decide ((i : Int) < (p.pl.length : Int)) = false := decide_eq_false (by omega)
  rw [List.take_of_length_le (by omega)] at hall
  rw [hall]
  repeat' (first | (simp (disch := omega) only [push_cast, ↓reduceIte, zA, zG, zB, zH, zI, zC, zJ, zK, zL, zD, zE, zF, zM, zN, zO, zP, zQ, reduceCtorEq, not_true_eq_false, not_false_eq_true, b1, hd2, addr_add_eq, Nat.zero_add]) | (first | refine iE ?_ ?_ | refine iD ?_ ?_ | refine iQ ?_ ?_ | refine iV ?_ ?_) <;> intro _ | refine And.intro (by omega) ?_ | refine drawn_q ?_ | fail)
  first | exact ⟨rfl, l03⟩ | exact l03
end Go.Proofs.Ytnofalhkapmcnaa
end
section
set_option linter.unusedSimpArgs false
namespace Go.Proofs.Ytnofalhkapmcnaa
open Go.Vc Go.Key
set_option maxRecDepth 100000
theorem sdC_len (s : SD) : (sdC s).length = 4 := rfl
def f20 (m : MD) : Bool := decide (F10 m.dl) && decide (F10 m.ml) && f17 m.p && decide (m.el.length ≤ 20) && decide (m.sl.length ≤ 20) && decide (m.fl.length ≤ 60) && decide (m.jn.size ≤ 60) && m.fl.all (fun s => decide (s.name.size ≤ 60))
theorem mdAt {w : World} {k : Nat} {m : MD} (h : Blk w k (mdC m).toArray 34) : w.cell? ⟨k, 0, none⟩ = some m.dv ∧ w.cell? ⟨k, 1, none⟩ = some m.mv ∧ cellsAt w ⟨k, 2, none⟩ 3 = some (pdC m.p) ∧ w.cell? ⟨k, 5, none⟩ = some (.int .i64 m.now) ∧ w.cell? ⟨k, 6, none⟩ = some m.ev ∧ w.cell? ⟨k, 7, none⟩ = some (.int .i64 m.cnt) ∧ w.cell? ⟨k, 8, none⟩ = some m.sv ∧ w.cell? ⟨k, 9, none⟩ = some m.fv ∧ w.cell? ⟨k, 10, none⟩ = some (.string m.jn) ∧ w.cell? ⟨k, 11, none⟩ = some (.int .i64 m.nx) := by
  refine ⟨h.cell 0, h.cell 1, ?_, h.cell 5, h.cell 6, h.cell 7, h.cell 8, h.cell 9, h.cell 10, h.cell 11⟩
  refine cellsAt_of 3 _ _ rfl fun i x hx => ?_
  rw [addr_add_eq]
  match i, hx with
  | 0, hx => cases hx; exact h.cell 2
  | 1, hx => cases hx; exact h.cell 3
  | 2, hx => cases hx; exact h.cell 4
  | n + 3, hx => exact absurd hx (by simp [pdC])
theorem mdLater {w w' : World} {k : Nat} {m : MD} (h : Blk w k (mdC m).toArray 34) (hl : Later w w') : Blk w' k (mdC m).toArray 34 := h.chg (Chg.of_later (ks := []) hl) (by simp)
set_option maxHeartbeats 2000000 in
theorem fits20_c (m : MD) (w : World) (hm : m.Ok w) : FnC Try.prog 19 #[.agg (mdC m).toArray] w fun v w' => v = .bool (f20 m) ∧ Later w w' := by
  obtain ⟨eo, ec, hev⟩ := Sl.slice hm.ev
  obtain ⟨so, sc, hsv⟩ := Sl.slice hm.sv
  obtain ⟨fo, fc, hfv, hf1, hf2⟩ := RecS.slice hm.fv
  rw [List.length_map] at hev hsv
  refine enter19 _ ?_
  unfold B19
  have eca : (Value.agg (mdC m).toArray).cells = (mdC m).toArray := rfl
  have l1 := later_alloc w (.cells (mdC m).toArray 34)
  have B1 := Blk.new w (mdC m).toArray 34
  repeat' (first | (simp (disch := omega) only [push_cast, ↓reduceIte, zA, zG, zB, zH, zI, zC, zJ, zK, zL, zD, zE, zF, zM, zN, zO, zP, zQ, reduceCtorEq, not_true_eq_false, not_false_eq_true, eca]) | (first | refine iE ?_ ?_ | refine iD ?_ ?_ | refine iQ ?_ ?_ | refine iV ?_ ?_) <;> intro _ | refine And.intro (by omega) ?_ | refine drawn_q ?_ | fail)
  generalize w.alloc (.cells (mdC m).toArray 34) = w1 at *
  generalize w.heap.size = kf at *
  have m1 := hm.later l1
  obtain ⟨a0, a1, a2, _⟩ := mdAt B1
  repeat' (first | (simp (disch := omega) only [push_cast, ↓reduceIte, zA, zG, zB, zH, zI, zC, zJ, zK, zL, zD, zE, zF, zM, zN, zO, zP, zQ, reduceCtorEq, not_true_eq_false, not_false_eq_true, a0, addr_add_eq, Nat.zero_add]) | (first | refine iE ?_ ?_ | refine iD ?_ ?_ | refine iQ ?_ ?_ | refine iV ?_ ?_) <;> intro _ | refine And.intro (by omega) ?_ | refine drawn_q ?_ | fail)
  refine (fits10_c _ _ w1 m1.dv (bz_le hm.dl)).mono ?_
  rintro _ w0 ⟨rfl, h0⟩; obtain rfl := h0.symm
  repeat' (first | (simp (disch := omega) only [push_cast, ↓reduceIte, zA, zG, zB, zH, zI, zC, zJ, zK, zL, zD, zE, zF, zM, zN, zO, zP, zQ, reduceCtorEq, not_true_eq_false, not_false_eq_true, a1, addr_add_eq, Nat.zero_add]) | (first | refine iE ?_ ?_ | refine iD ?_ ?_ | refine iQ ?_ ?_ | refine iV ?_ ?_) <;> intro _ | refine And.intro (by omega) ?_ | refine drawn_q ?_ | fail)
  refine (fits10_c _ _ w1 m1.mv (bz_le hm.ml)).mono ?_
  rintro _ w0 ⟨rfl, h0⟩; obtain rfl := h0.symm
  repeat' (first | (simp (disch := omega) only [push_cast, ↓reduceIte, zA, zG, zB, zH, zI, zC, zJ, zK, zL, zD, zE, zF, zM, zN, zO, zP, zQ, reduceCtorEq, not_true_eq_false, not_false_eq_true, a2, addr_add_eq, Nat.zero_add]) | (first | refine iE ?_ ?_ | refine iD ?_ ?_ | refine iQ ?_ ?_ | refine iV ?_ ?_) <;> intro _ | refine And.intro (by omega) ?_ | refine drawn_q ?_ | fail)
  refine (fits17_c m.p w1 m1.p).mono ?_
  rintro _ w2 ⟨rfl, l2⟩
  have l02 := l1.trans l2
  have B2 := mdLater B1 l2
  obtain ⟨_, _, _, _, a6, _, a8, a9, a10, _⟩ := mdAt B2
  rw [hev] at a6
  rw [hsv] at a8
  rw [hfv] at a9
  cases e0 : decide (F10 m.dl) with
  | false =>
    have hf : f20 m = false := by unfold f20; rw [e0]; simp
    rw [hf]
    repeat' (first | (simp (disch := omega) only [push_cast, ↓reduceIte, zA, zG, zB, zH, zI, zC, zJ, zK, zL, zD, zE, zF, zM, zN, zO, zP, zQ, reduceCtorEq, not_true_eq_false, not_false_eq_true]) | (first | refine iE ?_ ?_ | refine iD ?_ ?_ | refine iQ ?_ ?_ | refine iV ?_ ?_) <;> intro _ | refine And.intro (by omega) ?_ | refine drawn_q ?_ | fail)
    first | exact ⟨rfl, l02⟩ | exact l02
  | true =>
  cases e1 : decide (F10 m.ml) with
  | false =>
    have hf : f20 m = false := by unfold f20; rw [e1]; simp
    rw [hf]
    repeat' (first | (simp (disch := omega) only [push_cast, ↓reduceIte, zA, zG, zB, zH, zI, zC, zJ, zK, zL, zD, zE, zF, zM, zN, zO, zP, zQ, reduceCtorEq, not_true_eq_false, not_false_eq_true]) | (first | refine iE ?_ ?_ | refine iD ?_ ?_ | refine iQ ?_ ?_ | refine iV ?_ ?_) <;> intro _ | refine And.intro (by omega) ?_ | refine drawn_q ?_ | fail)
    first | exact ⟨rfl, l02⟩ | exact l02
  | true =>
  cases e2 : f17 m.p with
  | false =>
    have hf : f20 m = false := by unfold f20; rw [e2]; simp
    rw [hf]
    repeat' (first | (simp (disch := omega) only [push_cast, ↓reduceIte, zA, zG, zB, zH, zI, zC, zJ, zK, zL, zD, zE, zF, zM, zN, zO, zP, zQ, reduceCtorEq, not_true_eq_false, not_false_eq_true]) | (first | refine iE ?_ ?_ | refine iD ?_ ?_ | refine iQ ?_ ?_ | refine iV ?_ ?_) <;> intro _ | refine And.intro (by omega) ?_ | refine drawn_q ?_ | fail)
    first | exact ⟨rfl, l02⟩ | exact l02
  | true =>
  by_cases k3 : m.el.length ≤ 20
  case neg =>
    have e3 : decide (20 < (m.el.length : Int)) = true := decide_eq_true (by omega)
    have hf : f20 m = false := by unfold f20; rw [decide_eq_false k3]; simp
    rw [hf]
    repeat' (first | (simp (disch := omega) only [push_cast, ↓reduceIte, zA, zG, zB, zH, zI, zC, zJ, zK, zL, zD, zE, zF, zM, zN, zO, zP, zQ, reduceCtorEq, not_true_eq_false, not_false_eq_true, e3, a6, a8, a9, a10, addr_add_eq, Nat.zero_add]) | (first | refine iE ?_ ?_ | refine iD ?_ ?_ | refine iQ ?_ ?_ | refine iV ?_ ?_) <;> intro _ | refine And.intro (by omega) ?_ | refine drawn_q ?_ | fail)
    first | exact ⟨rfl, l02⟩ | exact l02
  have e3 : decide (20 < (m.el.length : Int)) = false := decide_eq_false (by omega)
  by_cases k4 : m.sl.length ≤ 20
  case neg =>
    have e4 : decide (20 < (m.sl.length : Int)) = true := decide_eq_true (by omega)
    have hf : f20 m = false := by unfold f20; rw [decide_eq_false k4]; simp
    rw [hf]
    repeat' (first | (simp (disch := omega) only [push_cast, ↓reduceIte, zA, zG, zB, zH, zI, zC, zJ, zK, zL, zD, zE, zF, zM, zN, zO, zP, zQ, reduceCtorEq, not_true_eq_false, not_false_eq_true, e3, e4, a6, a8, a9, a10, addr_add_eq, Nat.zero_add]) | (first | refine iE ?_ ?_ | refine iD ?_ ?_ | refine iQ ?_ ?_ | refine iV ?_ ?_) <;> intro _ | refine And.intro (by omega) ?_ | refine drawn_q ?_ | fail)
    first | exact ⟨rfl, l02⟩ | exact l02
  have e4 : decide (20 < (m.sl.length : Int)) = false := decide_eq_false (by omega)
  by_cases k5 : m.fl.length ≤ 60
  case neg =>
    have e5 : decide (60 < (m.fl.length : Int)) = true := decide_eq_true (by omega)
    have hf : f20 m = false := by unfold f20; rw [decide_eq_false k5]; simp
    rw [hf]
    repeat' (first | (simp (disch := omega) only [push_cast, ↓reduceIte, zA, zG, zB, zH, zI, zC, zJ, zK, zL, zD, zE, zF, zM, zN, zO, zP, zQ, reduceCtorEq, not_true_eq_false, not_false_eq_true, e3, e4, e5, a6, a8, a9, a10, addr_add_eq, Nat.zero_add]) | (first | refine iE ?_ ?_ | refine iD ?_ ?_ | refine iQ ?_ ?_ | refine iV ?_ ?_) <;> intro _ | refine And.intro (by omega) ?_ | refine drawn_q ?_ | fail)
    first | exact ⟨rfl, l02⟩ | exact l02
  have e5 : decide (60 < (m.fl.length : Int)) = false := decide_eq_false (by omega)
  by_cases k6 : m.jn.size ≤ 60
  case neg =>
    have e6 : decide (60 < (m.jn.size : Int)) = true := decide_eq_true (by omega)
    have hf : f20 m = false := by unfold f20; rw [decide_eq_false k6]; simp
    rw [hf]
    repeat' (first | (simp (disch := omega) only [push_cast, ↓reduceIte, zA, zG, zB, zH, zI, zC, zJ, zK, zL, zD, zE, zF, zM, zN, zO, zP, zQ, reduceCtorEq, not_true_eq_false, not_false_eq_true, e3, e4, e5, e6, a6, a8, a9, a10, addr_add_eq, Nat.zero_add]) | (first | refine iE ?_ ?_ | refine iD ?_ ?_ | refine iQ ?_ ?_ | refine iV ?_ ?_) <;> intro _ | refine And.intro (by omega) ?_ | refine drawn_q ?_ | fail)
    first | exact ⟨rfl, l02⟩ | exact l02
  have e6 : decide (60 < (m.jn.size : Int)) = false := decide_eq_false (by omega)
  have hf : f20 m = m.fl.all (fun s => decide (s.name.size ≤ 60)) := by
    unfold f20; rw [e0, e1, e2, decide_eq_true k3, decide_eq_true k4, decide_eq_true k5, decide_eq_true k6]; simp
  rw [hf]
  repeat' (first | (simp (disch := omega) only [push_cast, ↓reduceIte, zA, zG, zB, zH, zI, zC, zJ, zK, zL, zD, zE, zF, zM, zN, zO, zP, zQ, reduceCtorEq, not_true_eq_false, not_false_eq_true, e3, e4, e5, e6, a6, a8, a9, a10, addr_add_eq, Nat.zero_add]) | (first | refine iE ?_ ?_ | refine iD ?_ ?_ | refine iQ ?_ ?_ | refine iV ?_ ?_) <;> intro _ | refine And.intro (by omega) ?_ | refine drawn_q ?_ | fail)
  refine vc_loop W19_0 (fun i : Nat => [(2, .bool false), (6, .int .i64 (i : Int))]) (fun i w' => i ≤ m.fl.length ∧ w' = w2 ∧ (m.fl.take i).all (fun s => decide (s.name.size ≤ 60)) = true) (fun i => m.fl.length - i) 0 (by decide) ?_ ?_ ?_
  · simp (disch := omega) only [push_cast, ↓reduceIte, zA, zG, zB, zH, zI, zC, zJ, zK, zL, zD, zE, zF, zM, zN, zO, zP, zQ, reduceCtorEq, not_true_eq_false, not_false_eq_true]
  · exact ⟨Nat.zero_le _, rfl, rfl⟩
  rintro i uu _ ⟨hi, rfl, hall⟩
  by_cases hik : i < m.fl.length
  · have hd2 : decide ((i : Int) < (m.fl.length : Int)) = true := decide_eq_true (by omega)
    have h4 := (hm.later l02).fv
    rw [hfv] at h4
    obtain ⟨a, rfl, _⟩ := RecS.at sdC_len h4 hik
    have fa := RecS.cell (j := 0) sdC_len h4 hik rfl
    rw [addr_add_add, Nat.add_zero] at fa
    have hst : (m.fl.take (i + 1)).all (fun s => decide (s.name.size ≤ 60)) = decide ((m.fl[i]).name.size ≤ 60) := by
      rw [List.take_succ_eq_append_getElem hik, List.all_append, hall]; simp
    by_cases hin : (m.fl[i]).name.size ≤ 60
    · have e7 : decide (60 < ((m.fl[i]).name.size : Int)) = false := decide_eq_false (by omega)
      repeat' (first | (simp (disch := omega) only [push_cast, ↓reduceIte, zA, zG, zB, zH, zI, zC, zJ, zK, zL, zD, zE, zF, zM, zN, zO, zP, zQ, reduceCtorEq, not_true_eq_false, not_false_eq_true, a9, hd2, fa, e7, addr_add_eq, Nat.zero_add]) | (first | refine iE ?_ ?_ | refine iD ?_ ?_ | refine iQ ?_ ?_ | refine iV ?_ ?_) <;> intro _ | refine And.intro (by omega) ?_ | refine drawn_q ?_ | fail)
      exact ⟨rfl, i + 1, by simp (disch := omega) only [push_cast, ↓reduceIte, zA, zG, zB, zH, zI, zC, zJ, zK, zL, zD, zE, zF, zM, zN, zO, zP, zQ, reduceCtorEq, not_true_eq_false, not_false_eq_true], ⟨by omega, rfl, by rw [hst, decide_eq_true hin]⟩, by dsimp only; omega⟩
    · have e7 : decide (60 < ((m.fl[i]).name.size : Int)) = true := decide_eq_true (by omega)
      have hf0 : m.fl.all (fun s => decide (s.name.size ≤ 60)) = false := by
        rw [List.all_eq_false]
        exact ⟨_, List.getElem_mem hik, by simpa using hin⟩
      rw [hf0]
      repeat' (first | (simp (disch := omega) only [push_cast, ↓reduceIte, zA, zG, zB, zH, zI, zC, zJ, zK, zL, zD, zE, zF, zM, zN, zO, zP, zQ, reduceCtorEq, not_true_eq_false, not_false_eq_true, a9, hd2, fa, e7, addr_add_eq, Nat.zero_add]) | (first | refine iE ?_ ?_ | refine iD ?_ ?_ | refine iQ ?_ ?_ | refine iV ?_ ?_) <;> intro _ | refine And.intro (by omega) ?_ | refine drawn_q ?_ | fail)
      first | exact ⟨rfl, l02⟩ | exact l02
  have hd2 : decide ((i : Int) < (m.fl.length : Int)) = false := decide_eq_false (by omega)
  rw [List.take_of_length_le (by omega)] at hall
  rw [hall]
  repeat' (first | (simp (disch := omega) only [push_cast, ↓reduceIte, zA, zG, zB, zH, zI, zC, zJ, zK, zL, zD, zE, zF, zM, zN, zO, zP, zQ, reduceCtorEq, not_true_eq_false, not_false_eq_true, a9, hd2, addr_add_eq, Nat.zero_add]) | (first | refine iE ?_ ?_ | refine iD ?_ ?_ | refine iQ ?_ ?_ | refine iV ?_ ?_) <;> intro _ | refine And.intro (by omega) ?_ | refine drawn_q ?_ | fail)
  first | exact ⟨rfl, l02⟩ | exact l02
end Go.Proofs.Ytnofalhkapmcnaa
end
section
set_option linter.unusedSimpArgs false
namespace Go.Cub
open Go.Key Go.Proofs.Ytnofalhkapmcnaa
/-- Where a text stands first. -/
def fi : List ByteArray → ByteArray → Option Nat
  | [], _ => none
  | y :: l, x => if y = x then some 0 else (fi l x).map (· + 1)
theorem fi_some : ∀ {l : List ByteArray} {x : ByteArray} {k : Nat}, fi l x = some k → ∃ h : k < l.length, l[k] = x ∧ ∀ j (hj : j < k), l[j]'(by omega) ≠ x
  | [], _, _, h => by simp [fi] at h
  | y :: l, x, k, h => by
    unfold fi at h
    split at h
    · rename_i he
      cases h
      exact ⟨by simp, he, fun j hj => absurd hj (Nat.not_lt_zero _)⟩
    · rename_i he
      obtain ⟨m, hm, rfl⟩ := Option.map_eq_some_iff.1 h
      obtain ⟨h1, h2, h3⟩ := fi_some hm
      refine ⟨by simp; omega, by simpa using h2, fun j hj => ?_⟩
      cases j with
      | zero => exact he
      | succ j => exact h3 j (by omega)
theorem fi_none : ∀ {l : List ByteArray} {x : ByteArray}, fi l x = none ↔ ∀ y ∈ l, y ≠ x
  | [], _ => by simp [fi]
  | y :: l, x => by
    unfold fi
    split
    · rename_i he
      simp [he]
    · rename_i he
      rw [Option.map_eq_none_iff, fi_none]
      simp [he]
def sub (b : List ByteArray) : Nat → List ByteArray → Bool
  | _, [] => true
  | s, n :: a => match fi b n with
    | some k => if s ≤ k then sub b (k + 1) a else false
    | none => false
end Go.Cub
namespace Go.Proofs.Ytnofalhkapmcnaa
open Go.Vc Go.Key Go.Cub
set_option maxRecDepth 100000
/-- What is known of a list's slice. -/
theorem StS.opn {w : World} {v : Value} {l : List ByteArray} (h : StS w v l) : ∃ o c, v = .slice o l.length c ∧ StS w (.slice o l.length c) l ∧ l.length ≤ c ∧ c ≤ 9223372036854775807 ∧ (o = none → l = []) := by
  obtain ⟨o, c, rfl⟩ := Sl.slice h
  rw [List.length_map] at h ⊢
  have h2 := Sl.len h
  exact ⟨o, c, rfl, h, h2.2.1, h2.2.2.1, fun ho => by simpa using (h2.2.2.2 ho).1⟩
def fiT (o : Option Nat) : Value := .tuple #[.int .i64 ((o.getD 0 : Nat) : Int), .bool o.isSome]
theorem fnd_fi (x : ByteArray) (l : List ByteArray) : fndV x l = fiT (fi l x) := by
  cases hf : fi l x with
  | none =>
    have hn := fi_none.1 hf
    have : inL x l = false := by
      cases h : inL x l with
      | false => rfl
      | true => exact absurd rfl (hn x (inL_iff.1 h))
    unfold fndV
    rw [this]; rfl
  | some k =>
    obtain ⟨hk, hx, hj⟩ := fi_some hf
    refine (fndV_at hk hx ?_).trans rfl
    cases h : inL x (l.take k) with
    | false => rfl
    | true =>
      obtain ⟨j, hjl, he⟩ := List.mem_take_iff_getElem.1 (inL_iff.1 h)
      exact absurd he (hj j (by omega))
theorem dsubset_c (u v : Value) (a b : List ByteArray) (w : World) (hu : StS w u a) (hv : StS w v b) : FnC Try.prog 90 #[u, v] w fun r w' => r = .bool (sub b 0 a) ∧ w' = w := by
  obtain ⟨oa, ca, rfl, hu, g1, g2, g3⟩ := StS.opn hu
  obtain ⟨ob, cb, rfl, hv, k1, k2, k3⟩ := StS.opn hv
  refine enter90 _ _ ?_
  unfold B90
  repeat' (first | (simp (disch := omega) only [push_cast, ↓reduceIte, zA, zG, zB, zH, zI, zC, zJ, zK, zL, zD, zE, zF, zM, zN, zO, zP, zQ, reduceCtorEq, not_true_eq_false, not_false_eq_true]) | (first | refine iE ?_ ?_ | refine iD ?_ ?_ | refine iQ ?_ ?_ | refine iV ?_ ?_) <;> intro _ | refine And.intro (by omega) ?_ | refine drawn_q ?_ | fail)
  refine vc_loop W90_0 (fun p : Nat × Nat => [(4, .bool false), (5, .int .i64 ((p.2 : Int) - 1)), (6, .int .i64 (p.1 : Int))]) (fun p w' => p.1 ≤ a.length ∧ p.2 ≤ b.length ∧ w' = w ∧ sub b 0 a = sub b p.2 (a.drop p.1)) (fun p => a.length - p.1) (0, 0) (by decide) ?_ ?_ ?_
  · simp (disch := omega) only [push_cast, ↓reduceIte, zA, zG, zB, zH, zI, zC, zJ, zK, zL, zD, zE, zF, zM, zN, zO, zP, zQ, reduceCtorEq, not_true_eq_false, not_false_eq_true]
  · exact ⟨by omega, by omega, rfl, by simp⟩
  rintro ⟨i, s⟩ uu w1 ⟨hi, hsb, hw, he⟩
  obtain rfl := hw.symm
  dsimp only at hi he hsb
  by_cases hlt : i < a.length
  · cases oa with
    | none => have := g3 rfl; rw [this] at hlt; simp at hlt
    | some ad =>
    have hc := StS.atS hu hlt
    rw [List.drop_eq_getElem_cons hlt] at he
    generalize a[i] = n at *
    repeat' (first | (simp (disch := omega) only [push_cast, ↓reduceIte, zA, zG, zB, zH, zI, zC, zJ, zK, zL, zD, zE, zF, zM, zN, zO, zP, zQ, reduceCtorEq, not_true_eq_false, not_false_eq_true, hc]) | (first | refine iE ?_ ?_ | refine iD ?_ ?_ | refine iQ ?_ ?_ | refine iV ?_ ?_) <;> intro _ | refine And.intro (by omega) ?_ | refine drawn_q ?_ | fail)
    refine (dfind_c _ b n w hv).mono ?_
    rintro _ w0 ⟨rfl, h0⟩
    rw [fnd_fi]
    obtain rfl := h0.symm
    unfold fiT
    cases hf : fi b n with
    | none =>
      have e : sub b s (n :: a.drop (i + 1)) = false := by rw [sub, hf]
      simp only [Option.getD_none, Option.isSome_none]
      repeat' (first | (simp (disch := omega) only [push_cast, ↓reduceIte, zA, zG, zB, zH, zI, zC, zJ, zK, zL, zD, zE, zF, zM, zN, zO, zP, zQ, reduceCtorEq, not_true_eq_false, not_false_eq_true]) | (first | refine iE ?_ ?_ | refine iD ?_ ?_ | refine iQ ?_ ?_ | refine iV ?_ ?_) <;> intro _ | refine And.intro (by omega) ?_ | refine drawn_q ?_ | fail)
      rw [he, e]
    | some k =>
      obtain ⟨hk, _⟩ := fi_some hf
      simp only [Option.getD_some, Option.isSome_some]
      by_cases hsk : s ≤ k
      · have e : sub b s (n :: a.drop (i + 1)) = sub b (k + 1) (a.drop (i + 1)) := by
          rw [sub, hf]
          dsimp only
          rw [if_pos hsk]
        have ek : (k : Int) + 1 - 1 = (k : Int) := by omega
        repeat' (first | (simp (disch := omega) only [push_cast, ↓reduceIte, zA, zG, zB, zH, zI, zC, zJ, zK, zL, zD, zE, zF, zM, zN, zO, zP, zQ, reduceCtorEq, not_true_eq_false, not_false_eq_true]) | (first | refine iE ?_ ?_ | refine iD ?_ ?_ | refine iQ ?_ ?_ | refine iV ?_ ?_) <;> intro _ | refine And.intro (by omega) ?_ | refine drawn_q ?_ | fail)
        exact ⟨rfl, (i + 1, k + 1), by simp (disch := omega) only [push_cast, ↓reduceIte, zA, zG, zB, zH, zI, zC, zJ, zK, zL, zD, zE, zF, zM, zN, zO, zP, zQ, reduceCtorEq, not_true_eq_false, not_false_eq_true, ek], ⟨by dsimp only; omega, by dsimp only; omega, rfl, by rw [he, e]⟩, by dsimp only; omega⟩
      · have e : sub b s (n :: a.drop (i + 1)) = false := by
          rw [sub, hf]
          dsimp only
          rw [if_neg hsk]
        repeat' (first | (simp (disch := omega) only [push_cast, ↓reduceIte, zA, zG, zB, zH, zI, zC, zJ, zK, zL, zD, zE, zF, zM, zN, zO, zP, zQ, reduceCtorEq, not_true_eq_false, not_false_eq_true]) | (first | refine iE ?_ ?_ | refine iD ?_ ?_ | refine iQ ?_ ?_ | refine iV ?_ ?_) <;> intro _ | refine And.intro (by omega) ?_ | refine drawn_q ?_ | fail)
        rw [he, e]
  · have e : sub b 0 a = true := by rw [he, List.drop_of_length_le (by omega)]; rfl
    repeat' (first | (simp (disch := omega) only [push_cast, ↓reduceIte, zA, zG, zB, zH, zI, zC, zJ, zK, zL, zD, zE, zF, zM, zN, zO, zP, zQ, reduceCtorEq, not_true_eq_false, not_false_eq_true]) | (first | refine iE ?_ ?_ | refine iD ?_ ?_ | refine iQ ?_ ?_ | refine iV ?_ ?_) <;> intro _ | refine And.intro (by omega) ?_ | refine drawn_q ?_ | fail)
    rw [e]
end Go.Proofs.Ytnofalhkapmcnaa
end
section
namespace Go.Vc
end Go.Vc
end
section
namespace Go.Bkt
def flr (t g : Int) : Int := t - t % g
/-- Go's remainder, and where a bucket begins. -/
theorem tm (t g : Int) (hg : 0 < g) : -g < t.tmod g ∧ t.tmod g < g ∧ t % g = (if t.tmod g < 0 then t.tmod g + g else t.tmod g) ∧ t.tdiv g * g = t - t.tmod g := by
  have h1 := Int.tmod_lt_of_pos t hg
  have h2 := Int.lt_tmod_of_pos t hg
  have h3 := Int.tdiv_mul_add_tmod t g
  have h4 : t % g = (t.tmod g) % g := by
    conv => lhs; rw [← h3]
    rw [Int.add_comm, Int.add_mul_emod_self_right]
  refine ⟨h2, h1, ?_, by omega⟩
  rw [h4]
  split
  · rename_i h
    have e : t.tmod g % g = (t.tmod g + g) % g := by rw [Int.add_emod_right]
    rw [e]; exact Int.emod_eq_of_lt (by omega) (by omega)
  · exact Int.emod_eq_of_lt (by omega) h1
theorem em (t g : Int) (hg : 0 < g) : 0 ≤ t % g ∧ t % g < g := ⟨Int.emod_nonneg _ (by omega), Int.emod_lt_of_pos _ hg⟩
/-- Where a stretch ends. -/
def nxt (at_ to_ g : Int) : Int := min (flr at_ g + g) to_
end Go.Bkt
end
section
set_option linter.unusedSimpArgs false
namespace Go.Proofs.Ytnofalhkapmcnaa
set_option maxRecDepth 100000
open Go.Vc Go.Bkt
abbrev Rt (g : Int) : Prop := 1 ≤ g ∧ g ≤ 1048576
abbrev I6 (t : Int) : Prop := -9223372036854775808 ≤ t ∧ t ≤ 9223372036854775807
theorem bright_c (g : Int) (w : World) (h : I6 g) : FnC Try.prog 82 #[.int .i64 g] w fun v w' => v = .bool (decide (Rt g)) ∧ w' = w := by
  refine enter82 _ ?_
  unfold B82
  by_cases h1 : 1 ≤ g <;> by_cases h2 : g ≤ 1048576
  all_goals
    repeat' (first | (simp (disch := omega) only [push_cast, ↓reduceIte, zA, zG, zB, zH, zI, zC, zJ, zK, zL, zD, zE, zF, zM, zN, zO, zP, zQ, reduceCtorEq, not_true_eq_false, not_false_eq_true]) | (first | refine iE ?_ ?_ | refine iD ?_ ?_ | refine iQ ?_ ?_ | refine iV ?_ ?_) <;> intro _ | refine And.intro (by omega) ?_ | refine drawn_q ?_ | fail)
    all_goals simp [h1, h2]
theorem rright_c (g : Int) (w : World) (h : I6 g) : FnC Try.prog 84 #[.int .i64 g] w fun v w' => v = .bool (decide (Rt g)) ∧ w' = w := by
  refine enter84 _ ?_
  unfold B84
  by_cases h1 : 1 ≤ g <;> by_cases h2 : g ≤ 1048576
  all_goals
    repeat' (first | (simp (disch := omega) only [push_cast, ↓reduceIte, zA, zG, zB, zH, zI, zC, zJ, zK, zL, zD, zE, zF, zM, zN, zO, zP, zQ, reduceCtorEq, not_true_eq_false, not_false_eq_true]) | (first | refine iE ?_ ?_ | refine iD ?_ ?_ | refine iQ ?_ ?_ | refine iV ?_ ?_) <;> intro _ | refine And.intro (by omega) ?_ | refine drawn_q ?_ | fail)
    all_goals simp [h1, h2]
def alB (t g : Int) : Bool := decide (Rt g ∧ t % g = 0)
def coB (a b : Int) : Bool := decide (Rt a ∧ Rt b ∧ a % b = 0)
theorem tm0 (t g : Int) (hg : 0 < g) : t.tmod g = 0 ↔ t % g = 0 := by
  obtain ⟨h1, h2, h3, _⟩ := tm t g hg
  rw [h3]; split <;> omega
theorem baligned_c (t g : Int) (w : World) (ht : I6 t) (hg : I6 g) : FnC Try.prog 39 #[.int .i64 t, .int .i64 g] w fun v w' => v = .bool (alB t g) ∧ w' = w := by
  refine enter39 _ _ ?_
  unfold B39 alB
  repeat' (first | (simp (disch := omega) only [push_cast, ↓reduceIte, zA, zG, zB, zH, zI, zC, zJ, zK, zL, zD, zE, zF, zM, zN, zO, zP, zQ, reduceCtorEq, not_true_eq_false, not_false_eq_true]) | (first | refine iE ?_ ?_ | refine iD ?_ ?_ | refine iQ ?_ ?_ | refine iV ?_ ?_) <;> intro _ | refine And.intro (by omega) ?_ | refine drawn_q ?_ | fail)
  refine (bright_c g w hg).mono ?_
  rintro _ w0 ⟨rfl, hw⟩
  obtain rfl := hw.symm
  by_cases h0 : Rt g
  · have h1 := tm0 t g (by omega)
    by_cases h2 : t % g = 0
    · have h3 := h1.2 h2
      repeat' (first | (simp (disch := omega) only [push_cast, ↓reduceIte, zA, zG, zB, zH, zI, zC, zJ, zK, zL, zD, zE, zF, zM, zN, zO, zP, zQ, reduceCtorEq, not_true_eq_false, not_false_eq_true, h0, h2, h3, decide_true, decide_false]) | (first | refine iE ?_ ?_ | refine iD ?_ ?_ | refine iQ ?_ ?_ | refine iV ?_ ?_) <;> intro _ | refine And.intro (by omega) ?_ | refine drawn_q ?_ | fail)
      all_goals first | omega | (simp; done) | (simp; omega)
    · have h3 : ¬ t.tmod g = 0 := fun h => h2 (h1.1 h)
      repeat' (first | (simp (disch := omega) only [push_cast, ↓reduceIte, zA, zG, zB, zH, zI, zC, zJ, zK, zL, zD, zE, zF, zM, zN, zO, zP, zQ, reduceCtorEq, not_true_eq_false, not_false_eq_true, h0, h2, h3, decide_true, decide_false]) | (first | refine iE ?_ ?_ | refine iD ?_ ?_ | refine iQ ?_ ?_ | refine iV ?_ ?_) <;> intro _ | refine And.intro (by omega) ?_ | refine drawn_q ?_ | fail)
      all_goals first | omega | (simp; done) | (simp; omega)
  · repeat' (first | (simp (disch := omega) only [push_cast, ↓reduceIte, zA, zG, zB, zH, zI, zC, zJ, zK, zL, zD, zE, zF, zM, zN, zO, zP, zQ, reduceCtorEq, not_true_eq_false, not_false_eq_true, h0, decide_true, decide_false]) | (first | refine iE ?_ ?_ | refine iD ?_ ?_ | refine iQ ?_ ?_ | refine iV ?_ ?_) <;> intro _ | refine And.intro (by omega) ?_ | refine drawn_q ?_ | fail)
    all_goals simp
theorem bcoarser_c (a b : Int) (w : World) (ha : I6 a) (hb : I6 b) : FnC Try.prog 40 #[.int .i64 a, .int .i64 b] w fun v w' => v = .bool (coB a b) ∧ w' = w := by
  refine enter40 _ _ ?_
  unfold B40 coB
  repeat' (first | (simp (disch := omega) only [push_cast, ↓reduceIte, zA, zG, zB, zH, zI, zC, zJ, zK, zL, zD, zE, zF, zM, zN, zO, zP, zQ, reduceCtorEq, not_true_eq_false, not_false_eq_true]) | (first | refine iE ?_ ?_ | refine iD ?_ ?_ | refine iQ ?_ ?_ | refine iV ?_ ?_) <;> intro _ | refine And.intro (by omega) ?_ | refine drawn_q ?_ | fail)
  refine (bright_c a w ha).mono ?_
  rintro _ w0 ⟨rfl, hw⟩
  obtain rfl := hw.symm
  by_cases h0 : Rt a
  · repeat' (first | (simp (disch := omega) only [push_cast, ↓reduceIte, zA, zG, zB, zH, zI, zC, zJ, zK, zL, zD, zE, zF, zM, zN, zO, zP, zQ, reduceCtorEq, not_true_eq_false, not_false_eq_true, h0, decide_true, decide_false]) | (first | refine iE ?_ ?_ | refine iD ?_ ?_ | refine iQ ?_ ?_ | refine iV ?_ ?_) <;> intro _ | refine And.intro (by omega) ?_ | refine drawn_q ?_ | fail)
    refine (bright_c b w hb).mono ?_
    rintro _ w0 ⟨rfl, hw⟩
    obtain rfl := hw.symm
    by_cases h4 : Rt b
    · have h1 := tm0 a b (by omega)
      by_cases h2 : a % b = 0
      · have h3 := h1.2 h2
        repeat' (first | (simp (disch := omega) only [push_cast, ↓reduceIte, zA, zG, zB, zH, zI, zC, zJ, zK, zL, zD, zE, zF, zM, zN, zO, zP, zQ, reduceCtorEq, not_true_eq_false, not_false_eq_true, h4, h2, h3, decide_true, decide_false]) | (first | refine iE ?_ ?_ | refine iD ?_ ?_ | refine iQ ?_ ?_ | refine iV ?_ ?_) <;> intro _ | refine And.intro (by omega) ?_ | refine drawn_q ?_ | fail)
        all_goals first | omega | (simp; done) | (simp; omega)
      · have h3 : ¬ a.tmod b = 0 := fun h => h2 (h1.1 h)
        repeat' (first | (simp (disch := omega) only [push_cast, ↓reduceIte, zA, zG, zB, zH, zI, zC, zJ, zK, zL, zD, zE, zF, zM, zN, zO, zP, zQ, reduceCtorEq, not_true_eq_false, not_false_eq_true, h4, h2, h3, decide_true, decide_false]) | (first | refine iE ?_ ?_ | refine iD ?_ ?_ | refine iQ ?_ ?_ | refine iV ?_ ?_) <;> intro _ | refine And.intro (by omega) ?_ | refine drawn_q ?_ | fail)
        all_goals first | omega | (simp; done) | (simp; omega)
    · repeat' (first | (simp (disch := omega) only [push_cast, ↓reduceIte, zA, zG, zB, zH, zI, zC, zJ, zK, zL, zD, zE, zF, zM, zN, zO, zP, zQ, reduceCtorEq, not_true_eq_false, not_false_eq_true, h4, decide_true, decide_false]) | (first | refine iE ?_ ?_ | refine iD ?_ ?_ | refine iQ ?_ ?_ | refine iV ?_ ?_) <;> intro _ | refine And.intro (by omega) ?_ | refine drawn_q ?_ | fail)
      all_goals simp
  · repeat' (first | (simp (disch := omega) only [push_cast, ↓reduceIte, zA, zG, zB, zH, zI, zC, zJ, zK, zL, zD, zE, zF, zM, zN, zO, zP, zQ, reduceCtorEq, not_true_eq_false, not_false_eq_true, h0, decide_true, decide_false]) | (first | refine iE ?_ ?_ | refine iD ?_ ?_ | refine iQ ?_ ?_ | refine iV ?_ ?_) <;> intro _ | refine And.intro (by omega) ?_ | refine drawn_q ?_ | fail)
    all_goals simp
theorem rcoarser_c (a b : Int) (w : World) (ha : I6 a) (hb : I6 b) : FnC Try.prog 89 #[.int .i64 a, .int .i64 b] w fun v w' => v = .bool (coB a b) ∧ w' = w := by
  refine enter89 _ _ ?_
  unfold B89 coB
  repeat' (first | (simp (disch := omega) only [push_cast, ↓reduceIte, zA, zG, zB, zH, zI, zC, zJ, zK, zL, zD, zE, zF, zM, zN, zO, zP, zQ, reduceCtorEq, not_true_eq_false, not_false_eq_true]) | (first | refine iE ?_ ?_ | refine iD ?_ ?_ | refine iQ ?_ ?_ | refine iV ?_ ?_) <;> intro _ | refine And.intro (by omega) ?_ | refine drawn_q ?_ | fail)
  refine (rright_c a w ha).mono ?_
  rintro _ w0 ⟨rfl, hw⟩
  obtain rfl := hw.symm
  repeat' (first | (simp (disch := omega) only [push_cast, ↓reduceIte, zA, zG, zB, zH, zI, zC, zJ, zK, zL, zD, zE, zF, zM, zN, zO, zP, zQ, reduceCtorEq, not_true_eq_false, not_false_eq_true]) | (first | refine iE ?_ ?_ | refine iD ?_ ?_ | refine iQ ?_ ?_ | refine iV ?_ ?_) <;> intro _ | refine And.intro (by omega) ?_ | refine drawn_q ?_ | fail)
  refine (rright_c b w hb).mono ?_
  rintro _ w0 ⟨rfl, hw⟩
  obtain rfl := hw.symm
  by_cases h0 : Rt a
  · by_cases h4 : Rt b
    · have h1 := tm0 a b (by omega)
      by_cases h2 : a % b = 0
      · have h3 := h1.2 h2
        repeat' (first | (simp (disch := omega) only [push_cast, ↓reduceIte, zA, zG, zB, zH, zI, zC, zJ, zK, zL, zD, zE, zF, zM, zN, zO, zP, zQ, reduceCtorEq, not_true_eq_false, not_false_eq_true, h0, h4, h2, h3, decide_true, decide_false]) | (first | refine iE ?_ ?_ | refine iD ?_ ?_ | refine iQ ?_ ?_ | refine iV ?_ ?_) <;> intro _ | refine And.intro (by omega) ?_ | refine drawn_q ?_ | fail)
        all_goals first | omega | (simp; done) | (simp; omega)
      · have h3 : ¬ a.tmod b = 0 := fun h => h2 (h1.1 h)
        repeat' (first | (simp (disch := omega) only [push_cast, ↓reduceIte, zA, zG, zB, zH, zI, zC, zJ, zK, zL, zD, zE, zF, zM, zN, zO, zP, zQ, reduceCtorEq, not_true_eq_false, not_false_eq_true, h0, h4, h2, h3, decide_true, decide_false]) | (first | refine iE ?_ ?_ | refine iD ?_ ?_ | refine iQ ?_ ?_ | refine iV ?_ ?_) <;> intro _ | refine And.intro (by omega) ?_ | refine drawn_q ?_ | fail)
        all_goals first | omega | (simp; done) | (simp; omega)
    · repeat' (first | (simp (disch := omega) only [push_cast, ↓reduceIte, zA, zG, zB, zH, zI, zC, zJ, zK, zL, zD, zE, zF, zM, zN, zO, zP, zQ, reduceCtorEq, not_true_eq_false, not_false_eq_true, h0, h4, decide_true, decide_false]) | (first | refine iE ?_ ?_ | refine iD ?_ ?_ | refine iQ ?_ ?_ | refine iV ?_ ?_) <;> intro _ | refine And.intro (by omega) ?_ | refine drawn_q ?_ | fail)
      all_goals simp
  · repeat' (first | (simp (disch := omega) only [push_cast, ↓reduceIte, zA, zG, zB, zH, zI, zC, zJ, zK, zL, zD, zE, zF, zM, zN, zO, zP, zQ, reduceCtorEq, not_true_eq_false, not_false_eq_true, h0, decide_true, decide_false]) | (first | refine iE ?_ ?_ | refine iD ?_ ?_ | refine iQ ?_ ?_ | refine iV ?_ ?_) <;> intro _ | refine And.intro (by omega) ?_ | refine drawn_q ?_ | fail)
    all_goals simp
end Go.Proofs.Ytnofalhkapmcnaa
end
section
set_option linter.unusedSimpArgs false
namespace Go.Proofs.Ytnofalhkapmcnaa
open Go.Vc Go.Key Go.Cub
set_option maxRecDepth 100000
theorem vStore_tier {K : Value → World → Prop} (c : CD) (w : World) (hc : c.Ok w) (hK : K undef (w.alloc (.cells (cdC c).toArray 60))) :
    vStoreD Try.prog 60 (some 3) (.pointer (some ⟨w.heap.size, 0, none⟩)) (.agg (cdC c).toArray) K (w.alloc (.cells #[.int .i64 0, .int .i64 0, .slice none 0 0] 60)) := by
  obtain ⟨o, k, hv⟩ := Sl.slice hc.dv
  exact vStore_new rfl rfl (fun u hu => by
    simp only [cdC, List.mem_toArray, List.mem_cons, List.not_mem_nil, or_false] at hu
    rcases hu with rfl | rfl | rfl
    · rfl
    · rfl
    · rw [hv]; rfl) hK
theorem vStore_proj {K : Value → World → Prop} (c : CD) (w : World) (hc : c.Ok w) (hK : K undef (w.alloc (.cells (cdC c).toArray 51))) :
    vStoreD Try.prog 51 (some 3) (.pointer (some ⟨w.heap.size, 0, none⟩)) (.agg (cdC c).toArray) K (w.alloc (.cells #[.int .i64 0, .int .i64 0, .slice none 0 0] 51)) := by
  obtain ⟨o, k, hv⟩ := Sl.slice hc.dv
  exact vStore_new rfl rfl (fun u hu => by
    simp only [cdC, List.mem_toArray, List.mem_cons, List.not_mem_nil, or_false] at hu
    rcases hu with rfl | rfl | rfl
    · rfl
    · rfl
    · rw [hv]; rfl) hK
structure PlOk (d : List ByteArray) (p : PD) : Prop where
  n : 1 ≤ p.tl.length ∧ p.tl.length ≤ 4 ∧ p.pl.length ≤ 4
  first : ∀ h : 0 < p.tl.length, p.tl[0].a = 0 ∧ p.tl[0].dl = d
  tier : ∀ i (h : i < p.tl.length), grOk p.tl[i].g = true ∧ 0 ≤ p.tl[i].a ∧ p.tl[i].a ≤ 1099511627776
  next : ∀ i (h : i + 1 < p.tl.length), coB p.tl[i + 1].g p.tl[i].g = true ∧ sub p.tl[i].dl 0 p.tl[i + 1].dl = true ∧ p.tl[i].a < p.tl[i + 1].a
  proj : ∀ i (h : i < p.pl.length), 0 ≤ p.pl[i].a ∧ ∃ h2 : p.pl[i].a.toNat < p.tl.length, coB p.pl[i].g p.tl[p.pl[i].a.toNat].g = true ∧ sub p.tl[p.pl[i].a.toNat].dl 0 p.pl[i].dl = true
  hz : 0 ≤ p.hz ∧ p.hz ≤ 1099511627776 ∧ ∀ h : 0 < p.tl.length, p.tl[p.tl.length - 1].a < p.hz
set_option maxHeartbeats 2000000 in
theorem pcheck_c (dv mv : Value) (d m : List ByteArray) (p : PD) (w : World) (h : ScIs w dv mv d m) (hp : p.Ok w) : FnC Try.prog 56 #[scV dv mv, .agg (pdC p).toArray] w fun v w' => (∃ e : Int, v = .int .i64 e ∧ (e = 0 → PlOk d p)) ∧ Later w w' := by
  have esc : scV dv mv = .agg #[dv, mv] := rfl
  obtain ⟨to, tc, htv, ht1, ht2⟩ := RecS.slice hp.tv
  obtain ⟨po, pc, hpv, hp1, hp2⟩ := RecS.slice hp.pv
  have fail : ∀ (w' : World), Later w w' → (∃ e : Int, Value.int .i64 172 = .int .i64 e ∧ (e = 0 → PlOk d p)) ∧ Later w w' := fun w' hl => ⟨⟨172, rfl, fun h => absurd h (by decide)⟩, hl⟩
  rw [esc]
  refine enter56 _ _ ?_
  unfold B56
  have eca : (Value.agg (pdC p).toArray).cells = (pdC p).toArray := rfl
  have ecb : (Value.agg #[dv, mv]).cells = #[dv, mv] := rfl
  obtain ⟨l1, s1, F⟩ := box2 w dv mv 24
  have B2 := Blk.new (w.alloc (.cells #[dv, mv] 24)) (pdC p).toArray 28
  have l2 := later_alloc (w.alloc (.cells #[dv, mv] 24)) (.cells (pdC p).toArray 28)
  rw [s1] at B2
  repeat' (first | (simp (disch := omega) only [push_cast, ↓reduceIte, zA, zG, zB, zH, zI, zC, zJ, zK, zL, zD, zE, zF, zM, zN, zO, zP, zQ, reduceCtorEq, not_true_eq_false, not_false_eq_true, eca, ecb, s1]) | (first | refine iE ?_ ?_ | refine iD ?_ ?_ | refine iQ ?_ ?_ | refine iV ?_ ?_) <;> intro _ | refine And.intro (by omega) ?_ | fail)
  have l12 := l1.trans l2
  obtain ⟨f0, f1, f2⟩ := F _ l2
  clear F
  generalize (w.alloc (.cells #[dv, mv] 24)).alloc (.cells (pdC p).toArray 28) = w1 at *
  generalize hkf : w.heap.size = kf at *
  have h1 := h.later l12
  have p1 := hp.later l12
  obtain ⟨a0, a1, a2⟩ := pdAt B2
  rw [htv] at a0
  rw [hpv] at a1
  by_cases hn : 1 ≤ p.tl.length ∧ p.tl.length ≤ 4 ∧ p.pl.length ≤ 4
  case neg =>
    repeat' (first | (simp (disch := omega) only [push_cast, ↓reduceIte, zA, zG, zB, zH, zI, zC, zJ, zK, zL, zD, zE, zF, zM, zN, zO, zP, zQ, reduceCtorEq, not_true_eq_false, not_false_eq_true, a0, a1, addr_add_eq, Nat.zero_add]) | (first | refine iE ?_ ?_ | refine iD ?_ ?_ | refine iQ ?_ ?_ | refine iV ?_ ?_) <;> intro _ | refine And.intro (by omega) ?_ | refine drawn_q ?_ | fail)
    all_goals first | exact fail _ l12 | (exfalso; exact hn ⟨by omega, by omega, by omega⟩)
  obtain ⟨n1, n2, n3⟩ := hn
  have e1 : decide ((p.tl.length : Int) < 1) = false := decide_eq_false (by omega)
  have e2 : decide (4 < (p.tl.length : Int)) = false := decide_eq_false (by omega)
  have e3 : decide (4 < (p.pl.length : Int)) = false := decide_eq_false (by omega)
  have ht := p1.tv
  rw [htv] at ht
  obtain ⟨ta, rfl, _⟩ := RecS.at cdC_len ht (i := 0) (by omega)
  have fa0 := RecS.cell (j := 0) cdC_len ht (i := 0) (by omega) rfl
  have fa2 := RecS.cell (j := 2) cdC_len ht (i := 0) (by omega) rfl
  have az : ta.add 0 = ta := rfl
  rw [Nat.zero_mul, az] at fa0 fa2
  rw [az] at fa0
  by_cases hz0 : p.tl[0].a = 0
  case neg =>
    have e4 : decide (p.tl[0].a = 0) = false := decide_eq_false hz0
    repeat' (first | (simp (disch := omega) only [push_cast, ↓reduceIte, zA, zG, zB, zH, zI, zC, zJ, zK, zL, zD, zE, zF, zM, zN, zO, zP, zQ, reduceCtorEq, not_true_eq_false, not_false_eq_true, a0, a1, e1, e2, e3, fa0, e4, addr_add_eq, Nat.zero_add]) | (first | refine iE ?_ ?_ | refine iD ?_ ?_ | refine iQ ?_ ?_ | refine iV ?_ ?_) <;> intro _ | refine And.intro (by omega) ?_ | refine drawn_q ?_ | fail)
    exact fail _ l12
  have e4 : decide (p.tl[0].a = 0) = true := decide_eq_true hz0
  have k0 := p1.tl _ (List.getElem_mem (show 0 < p.tl.length by omega))
  repeat' (first | (simp (disch := omega) only [push_cast, ↓reduceIte, zA, zG, zB, zH, zI, zC, zJ, zK, zL, zD, zE, zF, zM, zN, zO, zP, zQ, reduceCtorEq, not_true_eq_false, not_false_eq_true, a0, a1, e1, e2, e3, fa0, fa2, f0, e4, addr_add_eq, Nat.zero_add]) | (first | refine iE ?_ ?_ | refine iD ?_ ?_ | refine iQ ?_ ?_ | refine iV ?_ ?_) <;> intro _ | refine And.intro (by omega) ?_ | refine drawn_q ?_ | fail)
  refine QFn.of hb32 (v := .bool (decide (p.tl[0].dl = d))) (fun w' hl => texts_c _ _ _ _ w' (Sl.later k0.dv hl) (Sl.later h1.dS hl)) ?_
  by_cases hd0 : p.tl[0].dl = d
  case neg =>
    have e5 : decide (p.tl[0].dl = d) = false := decide_eq_false hd0
    repeat' (first | (simp (disch := omega) only [push_cast, ↓reduceIte, zA, zG, zB, zH, zI, zC, zJ, zK, zL, zD, zE, zF, zM, zN, zO, zP, zQ, reduceCtorEq, not_true_eq_false, not_false_eq_true, e5]) | (first | refine iE ?_ ?_ | refine iD ?_ ?_ | refine iQ ?_ ?_ | refine iV ?_ ?_) <;> intro _ | refine And.intro (by omega) ?_ | refine drawn_q ?_ | fail)
    all_goals first | exact fun w' hl => fail _ (l12.trans hl) | trace_state
  have e5 : decide (p.tl[0].dl = d) = true := decide_eq_true hd0
  repeat' (first | (simp (disch := omega) only [push_cast, ↓reduceIte, zA, zG, zB, zH, zI, zC, zJ, zK, zL, zD, zE, zF, zM, zN, zO, zP, zQ, reduceCtorEq, not_true_eq_false, not_false_eq_true, e5]) | (first | refine iE ?_ ?_ | refine iD ?_ ?_ | refine iQ ?_ ?_ | refine iV ?_ ?_) <;> intro _ | refine And.intro (by omega) ?_ | refine drawn_q ?_ | fail)
  intro w2 l3
  have l13 := l12.trans l3
  refine vc_loop W56_0 (fun i : Nat => [(4, .int .i64 0), (7, .int .i64 (i : Int))]) (fun i w' => i ≤ p.tl.length ∧ Later w2 w' ∧ (∀ j (h : j < p.tl.length), j < i → grOk p.tl[j].g = true ∧ 0 ≤ p.tl[j].a ∧ p.tl[j].a ≤ 1099511627776) ∧ ∀ j (h : j + 1 < p.tl.length), j + 1 < i → coB p.tl[j + 1].g p.tl[j].g = true ∧ sub p.tl[j].dl 0 p.tl[j + 1].dl = true ∧ p.tl[j].a < p.tl[j + 1].a) (fun i => p.tl.length - i) 0 (by decide) ?_ ?_ ?_
  · simp (disch := omega) only [push_cast, ↓reduceIte, zA, zG, zB, zH, zI, zC, zJ, zK, zL, zD, zE, zF, zM, zN, zO, zP, zQ, reduceCtorEq, not_true_eq_false, not_false_eq_true]
  · exact ⟨Nat.zero_le _, Later.refl _, fun j _ hj => absurd hj (by omega), fun j _ hj => absurd hj (by omega)⟩
  rintro i uu w3 ⟨hi, l4, hT, hN⟩
  have l14 := l13.trans l4
  obtain ⟨b0, b1, b2⟩ := pdAt (pdLater B2 (l3.trans l4))
  rw [htv] at b0
  rw [hpv] at b1
  have p3 := p1.later (l3.trans l4)
  have h3 := h1.later (l3.trans l4)
  by_cases hik : i < p.tl.length
  · have hd2 : decide ((i : Int) < (p.tl.length : Int)) = true := decide_eq_true (by omega)
    have h4 := p3.tv
    rw [htv] at h4
    have fa := RecS.get cdC_len h4 hik
    have ki := p3.tl _ (List.getElem_mem hik)
    repeat' (first | (simp (disch := omega) only [push_cast, ↓reduceIte, zA, zG, zB, zH, zI, zC, zJ, zK, zL, zD, zE, zF, zM, zN, zO, zP, zQ, reduceCtorEq, not_true_eq_false, not_false_eq_true, hd2, b0, fa, addr_add_eq, Nat.zero_add]) | (first | refine iE ?_ ?_ | refine iD ?_ ?_ | refine iQ ?_ ?_ | refine iV ?_ ?_) <;> intro _ | refine And.intro (by omega) ?_ | refine drawn_q ?_ | fail)
    refine vStore_tier p.tl[i] w3 ki ?_
    have l5 := later_alloc w3 (.cells (cdC p.tl[i]).toArray 60)
    have B5 := Blk.new w3 (cdC p.tl[i]).toArray 60
    generalize w3.alloc (.cells (cdC p.tl[i]).toArray 60) = w5 at *
    generalize w3.heap.size = kt at *
    have c0 : w5.cell? ⟨kt, 0, none⟩ = some (.int .i64 p.tl[i].a) := B5.cell 0
    have c1 : w5.cell? ⟨kt, 1, none⟩ = some (.int .i64 p.tl[i].g) := B5.cell 1
    repeat' (first | (simp (disch := omega) only [push_cast, ↓reduceIte, zA, zG, zB, zH, zI, zC, zJ, zK, zL, zD, zE, zF, zM, zN, zO, zP, zQ, reduceCtorEq, not_true_eq_false, not_false_eq_true, c1, addr_add_eq, Nat.zero_add]) | (first | refine iE ?_ ?_ | refine iD ?_ ?_ | refine iQ ?_ ?_ | refine iV ?_ ?_) <;> intro _ | refine And.intro (by omega) ?_ | refine drawn_q ?_ | fail)
    refine (dgright_c p.tl[i].g w5).mono ?_
    rintro _ w0 ⟨rfl, h0⟩; obtain rfl := h0.symm
    repeat' (first | (simp (disch := omega) only [push_cast, ↓reduceIte, zA, zG, zB, zH, zI, zC, zJ, zK, zL, zD, zE, zF, zM, zN, zO, zP, zQ, reduceCtorEq, not_true_eq_false, not_false_eq_true, c0, addr_add_eq, Nat.zero_add]) | (first | refine iE ?_ ?_ | refine iD ?_ ?_ | refine iQ ?_ ?_ | refine iV ?_ ?_) <;> intro _ | refine And.intro (by omega) ?_ | refine drawn_q ?_ | fail)
    refine (age_c p.tl[i].a w5).mono ?_
    rintro _ w0 ⟨rfl, h0⟩; obtain rfl := h0.symm
    have l15 := l14.trans l5
    cases hg : grOk p.tl[i].g with
    | false =>
      repeat' (first | (simp (disch := omega) only [push_cast, ↓reduceIte, zA, zG, zB, zH, zI, zC, zJ, zK, zL, zD, zE, zF, zM, zN, zO, zP, zQ, reduceCtorEq, not_true_eq_false, not_false_eq_true]) | (first | refine iE ?_ ?_ | refine iD ?_ ?_ | refine iQ ?_ ?_ | refine iV ?_ ?_) <;> intro _ | refine And.intro (by omega) ?_ | refine drawn_q ?_ | fail)
      exact fail _ l15
    | true =>
    cases ha : (decide (0 ≤ p.tl[i].a) && decide (p.tl[i].a ≤ 1099511627776)) with
    | false =>
      repeat' (first | (simp (disch := omega) only [push_cast, ↓reduceIte, zA, zG, zB, zH, zI, zC, zJ, zK, zL, zD, zE, zF, zM, zN, zO, zP, zQ, reduceCtorEq, not_true_eq_false, not_false_eq_true]) | (first | refine iE ?_ ?_ | refine iD ?_ ?_ | refine iQ ?_ ?_ | refine iV ?_ ?_) <;> intro _ | refine And.intro (by omega) ?_ | refine drawn_q ?_ | fail)
      exact fail _ l15
    | true =>
    simp only [Bool.and_eq_true, decide_eq_true_eq] at ha
    have hT' : ∀ j (h : j < p.tl.length), j < i + 1 → grOk p.tl[j].g = true ∧ 0 ≤ p.tl[j].a ∧ p.tl[j].a ≤ 1099511627776 := fun j h hj => by
      by_cases hji : j = i
      · subst hji; exact ⟨hg, ha⟩
      · exact hT j h (by omega)
    by_cases hi0 : i = 0
    · subst hi0
      have e6 : decide (((0 : Nat) : Int) = 0) = true := rfl
      repeat' (first | (simp (disch := omega) only [push_cast, ↓reduceIte, zA, zG, zB, zH, zI, zC, zJ, zK, zL, zD, zE, zF, zM, zN, zO, zP, zQ, reduceCtorEq, not_true_eq_false, not_false_eq_true, e6]) | (first | refine iE ?_ ?_ | refine iD ?_ ?_ | refine iQ ?_ ?_ | refine iV ?_ ?_) <;> intro _ | refine And.intro (by omega) ?_ | refine drawn_q ?_ | fail)
      exact ⟨rfl, 0 + 1, by simp (disch := omega) only [push_cast, ↓reduceIte, zA, zG, zB, zH, zI, zC, zJ, zK, zL, zD, zE, zF, zM, zN, zO, zP, zQ, reduceCtorEq, not_true_eq_false, not_false_eq_true], ⟨by omega, l4.trans l5, hT', fun j h hj => absurd hj (by omega)⟩, by dsimp only; omega⟩
    have e6 : decide ((i : Int) = 0) = false := decide_eq_false (by omega)
    have hi1 : i - 1 < p.tl.length := by omega
    have eix : (i : Int) - 1 = ((i - 1 : Nat) : Int) := by omega
    have p5 := p3.later l5
    have b0' : w5.cell? ⟨kf + 1, 0, none⟩ = some (.slice (some ta) p.tl.length tc) := by
      have := (pdAt (pdLater B2 ((l3.trans l4).trans l5))).1
      rw [htv] at this; exact this
    have h45 := p5.tv
    rw [htv] at h45
    have fb := RecS.get cdC_len h45 hi1
    have kj := p5.tl _ (List.getElem_mem hi1)
    have eti : ((i : Int) - 1).toNat = i - 1 := by omega
    repeat' (first | (simp (disch := omega) only [push_cast, ↓reduceIte, zA, zG, zB, zH, zI, zC, zJ, zK, zL, zD, zE, zF, zM, zN, zO, zP, zQ, reduceCtorEq, not_true_eq_false, not_false_eq_true, e6, b0', fb, eti, addr_add_eq, Nat.zero_add]) | (first | refine iE ?_ ?_ | refine iD ?_ ?_ | refine iQ ?_ ?_ | refine iV ?_ ?_) <;> intro _ | refine And.intro (by omega) ?_ | refine drawn_q ?_ | fail)
    refine vStore_tier p.tl[i - 1] w5 kj ?_
    have l6 := later_alloc w5 (.cells (cdC p.tl[i - 1]).toArray 60)
    have B6 := Blk.new w5 (cdC p.tl[i - 1]).toArray 60
    generalize w5.alloc (.cells (cdC p.tl[i - 1]).toArray 60) = w6 at *
    generalize w5.heap.size = ku at *
    have B56 := B5.chg (Chg.of_later (ks := []) l6) (by simp)
    have c0 : w6.cell? ⟨kt, 0, none⟩ = some (.int .i64 p.tl[i].a) := B56.cell 0
    have c1 : w6.cell? ⟨kt, 1, none⟩ = some (.int .i64 p.tl[i].g) := B56.cell 1
    have c2 : w6.cell? ⟨kt, 2, none⟩ = some p.tl[i].dv := B56.cell 2
    have u0 : w6.cell? ⟨ku, 0, none⟩ = some (.int .i64 p.tl[i - 1].a) := B6.cell 0
    have u1 : w6.cell? ⟨ku, 1, none⟩ = some (.int .i64 p.tl[i - 1].g) := B6.cell 1
    have u2 : w6.cell? ⟨ku, 2, none⟩ = some p.tl[i - 1].dv := B6.cell 2
    repeat' (first | (simp (disch := omega) only [push_cast, ↓reduceIte, zA, zG, zB, zH, zI, zC, zJ, zK, zL, zD, zE, zF, zM, zN, zO, zP, zQ, reduceCtorEq, not_true_eq_false, not_false_eq_true, c1, u1, addr_add_eq, Nat.zero_add]) | (first | refine iE ?_ ?_ | refine iD ?_ ?_ | refine iQ ?_ ?_ | refine iV ?_ ?_) <;> intro _ | refine And.intro (by omega) ?_ | refine drawn_q ?_ | fail)
    refine (rcoarser_c p.tl[i].g p.tl[i - 1].g w6 ki.g kj.g).mono ?_
    rintro _ w0 ⟨rfl, h0⟩; obtain rfl := h0.symm
    repeat' (first | (simp (disch := omega) only [push_cast, ↓reduceIte, zA, zG, zB, zH, zI, zC, zJ, zK, zL, zD, zE, zF, zM, zN, zO, zP, zQ, reduceCtorEq, not_true_eq_false, not_false_eq_true, c2, u2, addr_add_eq, Nat.zero_add]) | (first | refine iE ?_ ?_ | refine iD ?_ ?_ | refine iQ ?_ ?_ | refine iV ?_ ?_) <;> intro _ | refine And.intro (by omega) ?_ | refine drawn_q ?_ | fail)
    refine (dsubset_c p.tl[i].dv p.tl[i - 1].dv p.tl[i].dl p.tl[i - 1].dl w6 (Sl.later ki.dv (l5.trans l6)) (Sl.later kj.dv l6)).mono ?_
    rintro _ w0 ⟨rfl, h0⟩; obtain rfl := h0.symm
    have l16 := l15.trans l6
    cases hco : coB p.tl[i].g p.tl[i - 1].g with
    | false =>
      repeat' (first | (simp (disch := omega) only [push_cast, ↓reduceIte, zA, zG, zB, zH, zI, zC, zJ, zK, zL, zD, zE, zF, zM, zN, zO, zP, zQ, reduceCtorEq, not_true_eq_false, not_false_eq_true]) | (first | refine iE ?_ ?_ | refine iD ?_ ?_ | refine iQ ?_ ?_ | refine iV ?_ ?_) <;> intro _ | refine And.intro (by omega) ?_ | refine drawn_q ?_ | fail)
      exact fail _ l16
    | true =>
    cases hsu : sub p.tl[i - 1].dl 0 p.tl[i].dl with
    | false =>
      repeat' (first | (simp (disch := omega) only [push_cast, ↓reduceIte, zA, zG, zB, zH, zI, zC, zJ, zK, zL, zD, zE, zF, zM, zN, zO, zP, zQ, reduceCtorEq, not_true_eq_false, not_false_eq_true]) | (first | refine iE ?_ ?_ | refine iD ?_ ?_ | refine iQ ?_ ?_ | refine iV ?_ ?_) <;> intro _ | refine And.intro (by omega) ?_ | refine drawn_q ?_ | fail)
      exact fail _ l16
    | true =>
    by_cases hle : p.tl[i].a ≤ p.tl[i - 1].a
    · have e7 : decide (p.tl[i].a ≤ p.tl[i - 1].a) = true := decide_eq_true hle
      repeat' (first | (simp (disch := omega) only [push_cast, ↓reduceIte, zA, zG, zB, zH, zI, zC, zJ, zK, zL, zD, zE, zF, zM, zN, zO, zP, zQ, reduceCtorEq, not_true_eq_false, not_false_eq_true, c0, u0, e7, addr_add_eq, Nat.zero_add]) | (first | refine iE ?_ ?_ | refine iD ?_ ?_ | refine iQ ?_ ?_ | refine iV ?_ ?_) <;> intro _ | refine And.intro (by omega) ?_ | refine drawn_q ?_ | fail)
      exact fail _ l16
    have e7 : decide (p.tl[i].a ≤ p.tl[i - 1].a) = false := decide_eq_false hle
    repeat' (first | (simp (disch := omega) only [push_cast, ↓reduceIte, zA, zG, zB, zH, zI, zC, zJ, zK, zL, zD, zE, zF, zM, zN, zO, zP, zQ, reduceCtorEq, not_true_eq_false, not_false_eq_true, c0, u0, e7, addr_add_eq, Nat.zero_add]) | (first | refine iE ?_ ?_ | refine iD ?_ ?_ | refine iQ ?_ ?_ | refine iV ?_ ?_) <;> intro _ | refine And.intro (by omega) ?_ | refine drawn_q ?_ | fail)
    refine ⟨rfl, i + 1, by simp (disch := omega) only [push_cast, ↓reduceIte, zA, zG, zB, zH, zI, zC, zJ, zK, zL, zD, zE, zF, zM, zN, zO, zP, zQ, reduceCtorEq, not_true_eq_false, not_false_eq_true], ⟨by omega, l4.trans (l5.trans l6), hT', fun j h hj => ?_⟩, by dsimp only; omega⟩
    by_cases hji : j + 1 = i
    · subst hji
      exact ⟨hco, hsu, by have : ¬ p.tl[j + 1].a ≤ p.tl[j].a := hle; omega⟩
    · exact hN j h (by omega)
  have hd2 : decide ((i : Int) < (p.tl.length : Int)) = false := decide_eq_false (by omega)
  have hie : i = p.tl.length := by omega
  repeat' (first | (simp (disch := omega) only [push_cast, ↓reduceIte, zA, zG, zB, zH, zI, zC, zJ, zK, zL, zD, zE, zF, zM, zN, zO, zP, zQ, reduceCtorEq, not_true_eq_false, not_false_eq_true, b0, hd2, addr_add_eq, Nat.zero_add]) | (first | refine iE ?_ ?_ | refine iD ?_ ?_ | refine iQ ?_ ?_ | refine iV ?_ ?_) <;> intro _ | refine And.intro (by omega) ?_ | refine drawn_q ?_ | fail)
  clear b0 b1 b2 hd2
  refine vc_loop W56_1 (fun i : Nat => [(4, .int .i64 0), (14, .int .i64 (i : Int))]) (fun i w' => i ≤ p.pl.length ∧ Later w3 w' ∧ ∀ j (h : j < p.pl.length), j < i → 0 ≤ p.pl[j].a ∧ ∃ h2 : p.pl[j].a.toNat < p.tl.length, coB p.pl[j].g p.tl[p.pl[j].a.toNat].g = true ∧ sub p.tl[p.pl[j].a.toNat].dl 0 p.pl[j].dl = true) (fun i => p.pl.length - i) 0 (by decide) ?_ ?_ ?_
  · simp (disch := omega) only [push_cast, ↓reduceIte, zA, zG, zB, zH, zI, zC, zJ, zK, zL, zD, zE, zF, zM, zN, zO, zP, zQ, reduceCtorEq, not_true_eq_false, not_false_eq_true]
  · exact ⟨Nat.zero_le _, Later.refl _, fun j _ hj => absurd hj (by omega)⟩
  rintro k uu w4 ⟨hk, l5, hP⟩
  have l15 := l14.trans l5
  obtain ⟨b0, b1, b2⟩ := pdAt (pdLater B2 ((l3.trans l4).trans l5))
  rw [htv] at b0
  rw [hpv] at b1
  have p4 := p3.later l5
  have h4t := p4.tv
  rw [htv] at h4t
  by_cases hkk : k < p.pl.length
  · have hd2 : decide ((k : Int) < (p.pl.length : Int)) = true := decide_eq_true (by omega)
    have h4 := p4.pv
    rw [hpv] at h4
    obtain ⟨pa, rfl, fa⟩ := RecS.at cdC_len h4 hkk
    have kp := p4.pl _ (List.getElem_mem hkk)
    have hPk : (0 ≤ p.pl[k].a ∧ ∃ h2 : p.pl[k].a.toNat < p.tl.length, coB p.pl[k].g p.tl[p.pl[k].a.toNat].g = true ∧ sub p.tl[p.pl[k].a.toNat].dl 0 p.pl[k].dl = true) → ∀ j (h : j < p.pl.length), j < k + 1 → 0 ≤ p.pl[j].a ∧ ∃ h2 : p.pl[j].a.toNat < p.tl.length, coB p.pl[j].g p.tl[p.pl[j].a.toNat].g = true ∧ sub p.tl[p.pl[j].a.toNat].dl 0 p.pl[j].dl = true := fun hh j h hj => by
      by_cases hjk : j = k
      · subst hjk; exact hh
      · exact hP j h (by omega)
    repeat' (first | (simp (disch := omega) only [push_cast, ↓reduceIte, zA, zG, zB, zH, zI, zC, zJ, zK, zL, zD, zE, zF, zM, zN, zO, zP, zQ, reduceCtorEq, not_true_eq_false, not_false_eq_true, hd2, b1, fa, addr_add_eq, Nat.zero_add]) | (first | refine iE ?_ ?_ | refine iD ?_ ?_ | refine iQ ?_ ?_ | refine iV ?_ ?_) <;> intro _ | refine And.intro (by omega) ?_ | refine drawn_q ?_ | fail)
    refine vStore_proj p.pl[k] w4 kp ?_
    have l6 := later_alloc w4 (.cells (cdC p.pl[k]).toArray 51)
    have B6 := Blk.new w4 (cdC p.pl[k]).toArray 51
    clear fa
    generalize p.pl[k] = c at *
    generalize w4.alloc (.cells (cdC c).toArray 51) = w6 at *
    generalize w4.heap.size = kt at *
    have c0 : w6.cell? ⟨kt, 0, none⟩ = some (.int .i64 c.a) := B6.cell 0
    have c1 : w6.cell? ⟨kt, 1, none⟩ = some (.int .i64 c.g) := B6.cell 1
    have c2 : w6.cell? ⟨kt, 2, none⟩ = some c.dv := B6.cell 2
    have l16 := l15.trans l6
    by_cases hr : 0 ≤ c.a ∧ c.a < (p.tl.length : Int)
    case neg =>
      repeat' (first | (simp (disch := omega) only [push_cast, ↓reduceIte, zA, zG, zB, zH, zI, zC, zJ, zK, zL, zD, zE, zF, zM, zN, zO, zP, zQ, reduceCtorEq, not_true_eq_false, not_false_eq_true, c0, addr_add_eq, Nat.zero_add]) | (first | refine iE ?_ ?_ | refine iD ?_ ?_ | refine iQ ?_ ?_ | refine iV ?_ ?_) <;> intro _ | refine And.intro (by omega) ?_ | refine drawn_q ?_ | fail)
      all_goals first | exact fail _ l16 | (exfalso; exact hr ⟨by omega, by omega⟩)
    have e1 : decide (c.a < 0) = false := decide_eq_false (by omega)
    have e2 : decide ((p.tl.length : Int) ≤ c.a) = false := decide_eq_false (by omega)
    have hct : c.a.toNat < p.tl.length := by omega
    have p6 := p4.later l6
    have d0 : w6.cell? ⟨kf + 1, 0, none⟩ = some (.slice (some ta) p.tl.length tc) := by
      have := (pdAt (pdLater B2 (((l3.trans l4).trans l5).trans l6))).1
      rw [htv] at this; exact this
    have h6 := p6.tv
    rw [htv] at h6
    have t1 := RecS.cell (j := 1) cdC_len h6 hct rfl
    have t2 := RecS.cell (j := 2) cdC_len h6 hct rfl
    have kq := p6.tl _ (List.getElem_mem hct)
    repeat' (first | (simp (disch := omega) only [push_cast, ↓reduceIte, zA, zG, zB, zH, zI, zC, zJ, zK, zL, zD, zE, zF, zM, zN, zO, zP, zQ, reduceCtorEq, not_true_eq_false, not_false_eq_true, c0, c1, d0, t1, e1, e2, addr_add_eq, Nat.zero_add]) | (first | refine iE ?_ ?_ | refine iD ?_ ?_ | refine iQ ?_ ?_ | refine iV ?_ ?_) <;> intro _ | refine And.intro (by omega) ?_ | refine drawn_q ?_ | fail)
    refine QFn.of hb89 (v := .bool (coB c.g p.tl[c.a.toNat].g)) (fun w' hl => (rcoarser_c c.g p.tl[c.a.toNat].g w' kp.g kq.g).mono fun u w'' hu => ⟨hu.1, by rw [hu.2]; exact Later.refl _⟩) ?_
    repeat' (first | (simp (disch := omega) only [push_cast, ↓reduceIte, zA, zG, zB, zH, zI, zC, zJ, zK, zL, zD, zE, zF, zM, zN, zO, zP, zQ, reduceCtorEq, not_true_eq_false, not_false_eq_true]) | (first | refine iE ?_ ?_ | refine iD ?_ ?_ | refine iQ ?_ ?_ | refine iV ?_ ?_) <;> intro _ | refine And.intro (by omega) ?_ | refine drawn_q ?_ | fail)
    intro w7 l7
    have B7 := B6.chg (Chg.of_later (ks := []) l7) (by simp)
    have c0 : w7.cell? ⟨kt, 0, none⟩ = some (.int .i64 c.a) := B7.cell 0
    have c2 : w7.cell? ⟨kt, 2, none⟩ = some c.dv := B7.cell 2
    have d0 : w7.cell? ⟨kf + 1, 0, none⟩ = some (.slice (some ta) p.tl.length tc) := by
      have := (pdAt (pdLater B2 ((((l3.trans l4).trans l5).trans l6).trans l7))).1
      rw [htv] at this; exact this
    have t2 := RecS.cell (j := 2) cdC_len (h6.later l7) hct rfl
    repeat' (first | (simp (disch := omega) only [push_cast, ↓reduceIte, zA, zG, zB, zH, zI, zC, zJ, zK, zL, zD, zE, zF, zM, zN, zO, zP, zQ, reduceCtorEq, not_true_eq_false, not_false_eq_true, c0, c2, d0, t2, addr_add_eq, Nat.zero_add]) | (first | refine iE ?_ ?_ | refine iD ?_ ?_ | refine iQ ?_ ?_ | refine iV ?_ ?_) <;> intro _ | refine And.intro (by omega) ?_ | refine drawn_q ?_ | fail)
    refine QFn.of hb90 (v := .bool (sub p.tl[c.a.toNat].dl 0 c.dl)) (fun w' hl => (dsubset_c c.dv p.tl[c.a.toNat].dv c.dl p.tl[c.a.toNat].dl w' (Sl.later kp.dv (l6.trans (l7.trans hl))) (Sl.later kq.dv (l7.trans hl))).mono fun u w'' hu => ⟨hu.1, by rw [hu.2]; exact Later.refl _⟩) ?_
    have l17 := l16.trans l7
    cases hco : coB c.g p.tl[c.a.toNat].g with
    | false =>
      repeat' (first | (simp (disch := omega) only [push_cast, ↓reduceIte, zA, zG, zB, zH, zI, zC, zJ, zK, zL, zD, zE, zF, zM, zN, zO, zP, zQ, reduceCtorEq, not_true_eq_false, not_false_eq_true]) | (first | refine iE ?_ ?_ | refine iD ?_ ?_ | refine iQ ?_ ?_ | refine iV ?_ ?_) <;> intro _ | refine And.intro (by omega) ?_ | refine drawn_q ?_ | fail)
      exact fun w' hl => fail _ (l17.trans hl)
    | true =>
    cases hsu : sub p.tl[c.a.toNat].dl 0 c.dl with
    | false =>
      repeat' (first | (simp (disch := omega) only [push_cast, ↓reduceIte, zA, zG, zB, zH, zI, zC, zJ, zK, zL, zD, zE, zF, zM, zN, zO, zP, zQ, reduceCtorEq, not_true_eq_false, not_false_eq_true]) | (first | refine iE ?_ ?_ | refine iD ?_ ?_ | refine iQ ?_ ?_ | refine iV ?_ ?_) <;> intro _ | refine And.intro (by omega) ?_ | refine drawn_q ?_ | fail)
      exact fun w' hl => fail _ (l17.trans hl)
    | true =>
    repeat' (first | (simp (disch := omega) only [push_cast, ↓reduceIte, zA, zG, zB, zH, zI, zC, zJ, zK, zL, zD, zE, zF, zM, zN, zO, zP, zQ, reduceCtorEq, not_true_eq_false, not_false_eq_true]) | (first | refine iE ?_ ?_ | refine iD ?_ ?_ | refine iQ ?_ ?_ | refine iV ?_ ?_) <;> intro _ | refine And.intro (by omega) ?_ | refine drawn_q ?_ | fail)
    exact fun w' hl => ⟨rfl, k + 1, by simp (disch := omega) only [push_cast, ↓reduceIte, zA, zG, zB, zH, zI, zC, zJ, zK, zL, zD, zE, zF, zM, zN, zO, zP, zQ, reduceCtorEq, not_true_eq_false, not_false_eq_true], ⟨by omega, l5.trans (l6.trans (l7.trans hl)), hPk ⟨hr.1, hct, hco, hsu⟩⟩, by dsimp only; omega⟩
  have hd2 : decide ((k : Int) < (p.pl.length : Int)) = false := decide_eq_false (by omega)
  repeat' (first | (simp (disch := omega) only [push_cast, ↓reduceIte, zA, zG, zB, zH, zI, zC, zJ, zK, zL, zD, zE, zF, zM, zN, zO, zP, zQ, reduceCtorEq, not_true_eq_false, not_false_eq_true, b1, b2, hd2, addr_add_eq, Nat.zero_add]) | (first | refine iE ?_ ?_ | refine iD ?_ ?_ | refine iQ ?_ ?_ | refine iV ?_ ?_) <;> intro _ | refine And.intro (by omega) ?_ | refine drawn_q ?_ | fail)
  refine (age_c p.hz w4).mono ?_
  rintro _ w0 ⟨rfl, h0⟩; obtain rfl := h0.symm
  have hn1 : p.tl.length - 1 < p.tl.length := by omega
  have tz := RecS.cell (j := 0) cdC_len h4t hn1 rfl
  rw [addr_add_add, Nat.add_zero] at tz
  have eti : ((p.tl.length : Int) - 1).toNat = p.tl.length - 1 := by omega
  cases ha : (decide (0 ≤ p.hz) && decide (p.hz ≤ 1099511627776)) with
  | false =>
    repeat' (first | (simp (disch := omega) only [push_cast, ↓reduceIte, zA, zG, zB, zH, zI, zC, zJ, zK, zL, zD, zE, zF, zM, zN, zO, zP, zQ, reduceCtorEq, not_true_eq_false, not_false_eq_true]) | (first | refine iE ?_ ?_ | refine iD ?_ ?_ | refine iQ ?_ ?_ | refine iV ?_ ?_) <;> intro _ | refine And.intro (by omega) ?_ | refine drawn_q ?_ | fail)
    all_goals first | exact fun w' hl => fail _ (l15.trans hl) | exact fail _ l15
  | true =>
  simp only [Bool.and_eq_true, decide_eq_true_eq] at ha
  by_cases hle : p.hz ≤ p.tl[p.tl.length - 1].a
  · have e7 : decide (p.hz ≤ p.tl[p.tl.length - 1].a) = true := decide_eq_true hle
    repeat' (first | (simp (disch := omega) only [push_cast, ↓reduceIte, zA, zG, zB, zH, zI, zC, zJ, zK, zL, zD, zE, zF, zM, zN, zO, zP, zQ, reduceCtorEq, not_true_eq_false, not_false_eq_true, b0, b2, tz, eti, e7, addr_add_eq, Nat.zero_add]) | (first | refine iE ?_ ?_ | refine iD ?_ ?_ | refine iQ ?_ ?_ | refine iV ?_ ?_) <;> intro _ | refine And.intro (by omega) ?_ | refine drawn_q ?_ | fail)
    all_goals first | exact fun w' hl => fail _ (l15.trans hl) | exact fail _ l15
  have e7 : decide (p.hz ≤ p.tl[p.tl.length - 1].a) = false := decide_eq_false hle
  have ok : PlOk d p := ⟨⟨n1, n2, n3⟩, fun _ => ⟨hz0, hd0⟩, fun j h => hT j h (by omega), fun j h => hN j h (by omega), fun j h => hP j h (by omega), ha.1, ha.2, fun _ => by omega⟩
  repeat' (first | (simp (disch := omega) only [push_cast, ↓reduceIte, zA, zG, zB, zH, zI, zC, zJ, zK, zL, zD, zE, zF, zM, zN, zO, zP, zQ, reduceCtorEq, not_true_eq_false, not_false_eq_true, b0, b2, tz, eti, e7, addr_add_eq, Nat.zero_add]) | (first | refine iE ?_ ?_ | refine iD ?_ ?_ | refine iQ ?_ ?_ | refine iV ?_ ?_) <;> intro _ | refine And.intro (by omega) ?_ | refine drawn_q ?_ | fail)
  all_goals first | exact fun w' hl => ⟨⟨0, rfl, fun _ => ok⟩, l15.trans hl⟩ | exact ⟨⟨0, rfl, fun _ => ok⟩, l15⟩
end Go.Proofs.Ytnofalhkapmcnaa
end
section
set_option linter.unusedSimpArgs false
namespace Go.Proofs.Ytnofalhkapmcnaa
open Go.Vc Go.Key
set_option maxRecDepth 100000
def fnB (c : UInt8) : Bool := (97 ≤ c && c ≤ 122) || (48 ≤ c && c ≤ 57) || c == 46
def fnOk (s : ByteArray) : Bool := s.data.toList.all fnB && decide (1 ≤ s.size ∧ s.size ≤ 12)
theorem fnB_iff (c : UInt8) : fnB c = true ↔ (97 ≤ c.toNat ∧ c.toNat ≤ 122) ∨ (48 ≤ c.toNat ∧ c.toNat ≤ 57) ∨ c.toNat = 46 := by
  unfold fnB
  simp only [Bool.or_eq_true, Bool.and_eq_true, decide_eq_true_eq, beq_iff_eq, UInt8.le_iff_toNat_le]
  have e : (c = 46) ↔ c.toNat = 46 := ⟨fun h => by rw [h]; rfl, fun h => UInt8.toNat_inj.1 h⟩
  rw [e]
  constructor
  · rintro ((h | h) | h)
    · exact .inl h
    · exact .inr (.inl h)
    · exact .inr (.inr h)
  · rintro (h | h | h)
    · exact .inl (.inl h)
    · exact .inl (.inr h)
    · exact .inr h
theorem fname_c (s : ByteArray) (w : World) (hs : s.size ≤ 9223372036854775807) : FnC Try.prog 92 #[.string s] w fun r w' => r = .bool (fnOk s) ∧ w' = w := by
  have hall : s.data.toList.all fnB = true ↔ ∀ i (h : i < s.size), fnB s[i] = true := by
    rw [List.all_eq_true]
    constructor
    · intro h i hi
      have e : s[i] = s.data.toList[i]'(by simpa using hi) := rfl
      rw [e]
      exact h _ (List.getElem_mem _)
    · intro h b hb
      obtain ⟨i, hi, rfl⟩ := List.getElem_of_mem hb
      exact h i (by simpa using hi)
  refine enter92 _ ?_
  unfold B92
  repeat' (first | (simp (disch := omega) only [push_cast, ↓reduceIte, zA, zG, zB, zH, zI, zC, zJ, zK, zL, zD, zE, zF, zM, zN, zO, zP, zQ, reduceCtorEq, not_true_eq_false, not_false_eq_true]) | (first | refine iE ?_ ?_ | refine iD ?_ ?_ | refine iQ ?_ ?_ | refine iV ?_ ?_) <;> intro _ | refine And.intro (by omega) ?_ | refine drawn_q ?_ | fail)
  refine vc_loop W92_0 (fun i : Nat => [(2, .bool false), (3, .int .i64 (i : Int))])
    (fun i w' => i ≤ s.size ∧ w' = w ∧ ∀ j (h : j < s.size), j < i → fnB s[j] = true) (fun i => s.size - i) 0 (by decide) ?_ ?_ ?_
  · simp (disch := omega) only [push_cast, ↓reduceIte, zA, zG, zB, zH, zI, zC, zJ, zK, zL, zD, zE, zF, zM, zN, zO, zP, zQ, reduceCtorEq, not_true_eq_false, not_false_eq_true]
  · exact ⟨by omega, rfl, fun j _ hj => absurd hj (Nat.not_lt_zero _)⟩
  rintro i uu w0 ⟨hi, h0, hA⟩
  obtain rfl := h0.symm
  by_cases hlt : i < s.size
  · have hd : decide ((i : Int) < (s.size : Int)) = true := decide_eq_true (by omega)
    have hg : s[i]? = some s[i] := getElem?_pos s i hlt
    by_cases hv : fnB s[i] = true
    · have hv' := (fnB_iff _).1 hv
      generalize hc : s[i].toNat = c at *
      repeat' (first | (simp (disch := omega) only [push_cast, ↓reduceIte, zA, zG, zB, zH, zI, zC, zJ, zK, zL, zD, zE, zF, zM, zN, zO, zP, zQ, reduceCtorEq, not_true_eq_false, not_false_eq_true, hd, hg, hc]) | (first | refine iE ?_ ?_ | refine iD ?_ ?_ | refine iQ ?_ ?_ | refine iV ?_ ?_) <;> intro _ | refine And.intro (by omega) ?_ | refine drawn_q ?_ | fail)
      all_goals first
        | (exfalso; omega)
        | (refine ⟨rfl, i + 1, by simp (disch := omega) only [push_cast, ↓reduceIte, zA, zG, zB, zH, zI, zC, zJ, zK, zL, zD, zE, zF, zM, zN, zO, zP, zQ, reduceCtorEq, not_true_eq_false, not_false_eq_true], ⟨by omega, rfl, fun j hj hji => ?_⟩, by dsimp only; omega⟩
           by_cases h : j < i
           · exact hA j hj h
           · have : j = i := by omega
             subst this
             exact hv)
    · have hno : fnOk s = false := by
        unfold fnOk
        cases h : s.data.toList.all fnB with
        | false => rfl
        | true => exact absurd (hall.1 h i hlt) hv
      have hv' : ¬ ((97 ≤ s[i].toNat ∧ s[i].toNat ≤ 122) ∨ (48 ≤ s[i].toNat ∧ s[i].toNat ≤ 57) ∨ s[i].toNat = 46) := fun h => hv ((fnB_iff _).2 h)
      generalize hc : s[i].toNat = c at *
      repeat' (first | (simp (disch := omega) only [push_cast, ↓reduceIte, zA, zG, zB, zH, zI, zC, zJ, zK, zL, zD, zE, zF, zM, zN, zO, zP, zQ, reduceCtorEq, not_true_eq_false, not_false_eq_true, hd, hg, hc]) | (first | refine iE ?_ ?_ | refine iD ?_ ?_ | refine iQ ?_ ?_ | refine iV ?_ ?_) <;> intro _ | refine And.intro (by omega) ?_ | refine drawn_q ?_ | fail)
      all_goals first
        | (exfalso; omega)
        | exact ⟨by rw [hno], rfl⟩
        | (rw [hno])
  · have hd : decide ((i : Int) < (s.size : Int)) = false := decide_eq_false (by omega)
    have hy : fnOk s = decide (1 ≤ s.size ∧ s.size ≤ 12) := by
      unfold fnOk
      rw [hall.2 fun j hj => hA j hj (by omega), Bool.true_and]
    rw [hy]
    by_cases h1 : 1 ≤ s.size
    · have hd1 : decide ((1 : Int) ≤ (s.size : Int)) = true := decide_eq_true (by omega)
      have hd2 : decide ((s.size : Int) ≤ 12) = decide (1 ≤ s.size ∧ s.size ≤ 12) := decide_eq_decide.2 (by omega)
      repeat' (first | (simp (disch := omega) only [push_cast, ↓reduceIte, zA, zG, zB, zH, zI, zC, zJ, zK, zL, zD, zE, zF, zM, zN, zO, zP, zQ, reduceCtorEq, not_true_eq_false, not_false_eq_true, hd, hd1, hd2]) | (first | refine iE ?_ ?_ | refine iD ?_ ?_ | refine iQ ?_ ?_ | refine iV ?_ ?_) <;> intro _ | refine And.intro (by omega) ?_ | refine drawn_q ?_ | fail)
    · have hd1 : decide ((1 : Int) ≤ (s.size : Int)) = false := decide_eq_false (by omega)
      have hd2 : decide (1 ≤ s.size ∧ s.size ≤ 12) = false := decide_eq_false (by omega)
      repeat' (first | (simp (disch := omega) only [push_cast, ↓reduceIte, zA, zG, zB, zH, zI, zC, zJ, zK, zL, zD, zE, zF, zM, zN, zO, zP, zQ, reduceCtorEq, not_true_eq_false, not_false_eq_true, hd, hd1, hd2]) | (first | refine iE ?_ ?_ | refine iD ?_ ?_ | refine iQ ?_ ?_ | refine iV ?_ ?_) <;> intro _ | refine And.intro (by omega) ?_ | refine drawn_q ?_ | fail)
end Go.Proofs.Ytnofalhkapmcnaa
end
section
set_option linter.unusedSimpArgs false
namespace Go.Proofs.Ytnofalhkapmcnaa
open Go.Vc Go.Key Go.Cub
set_option maxRecDepth 100000
structure FlOk (p : PD) (s : SD) : Prop where
  rows : 0 ≤ s.rows ∧ s.rows ≤ 65536
  tier : 0 ≤ s.tier ∧ s.tier < (p.tl.length : Int)
  proj : -1 ≤ s.proj ∧ s.proj < (p.pl.length : Int)
  of : s.proj ≠ -1 → ∃ h : s.proj.toNat < p.pl.length, p.pl[s.proj.toNat].a = s.tier
set_option maxHeartbeats 2000000 in
theorem file_c (p : PD) (s : SD) (w : World) (hp : p.Ok w) (hs : s.Ok) : FnC Try.prog 91 #[.agg (pdC p).toArray, .agg (sdC s).toArray] w fun v w' => (∃ b : Bool, v = .bool b ∧ (b = true → FlOk p s)) ∧ Later w w' := by
  obtain ⟨to, tc, htv, ht1, ht2⟩ := RecS.slice hp.tv
  obtain ⟨po, pc, hpv, hp1, hp2⟩ := RecS.slice hp.pv
  have fail : ∀ (w' : World), Later w w' → (∃ b : Bool, Value.bool false = .bool b ∧ (b = true → FlOk p s)) ∧ Later w w' := fun w' hl => ⟨⟨false, rfl, fun h => by cases h⟩, hl⟩
  refine enter91 _ _ ?_
  unfold B91
  have eca : (Value.agg (pdC p).toArray).cells = (pdC p).toArray := rfl
  have ecb : (Value.agg (sdC s).toArray).cells = (sdC s).toArray := rfl
  have l1 := later_alloc w (.cells (pdC p).toArray 28)
  have s1 : (w.alloc (.cells (pdC p).toArray 28)).heap.size = w.heap.size + 1 := World.size_alloc _ _
  have B1 := Blk.new w (pdC p).toArray 28
  have l2 := later_alloc (w.alloc (.cells (pdC p).toArray 28)) (.cells (sdC s).toArray 57)
  have B2 := Blk.new (w.alloc (.cells (pdC p).toArray 28)) (sdC s).toArray 57
  rw [s1] at B2
  have B1 := pdLater B1 l2
  repeat' (first | (simp (disch := omega) only [push_cast, ↓reduceIte, zA, zG, zB, zH, zI, zC, zJ, zK, zL, zD, zE, zF, zM, zN, zO, zP, zQ, reduceCtorEq, not_true_eq_false, not_false_eq_true, eca, ecb, s1]) | (first | refine iE ?_ ?_ | refine iD ?_ ?_ | refine iQ ?_ ?_ | refine iV ?_ ?_) <;> intro _ | refine And.intro (by omega) ?_ | refine drawn_q ?_ | fail)
  have l12 := l1.trans l2
  generalize (w.alloc (.cells (pdC p).toArray 28)).alloc (.cells (sdC s).toArray 57) = w1 at *
  generalize hkf : w.heap.size = kf at *
  have p1 := hp.later l12
  obtain ⟨a0, a1, a2⟩ := pdAt B1
  rw [htv] at a0
  rw [hpv] at a1
  have c0 : w1.cell? ⟨kf + 1, 0, none⟩ = some (.string s.name) := B2.cell 0
  have c1 : w1.cell? ⟨kf + 1, 1, none⟩ = some (.int .i64 s.tier) := B2.cell 1
  have c2 : w1.cell? ⟨kf + 1, 2, none⟩ = some (.int .i64 s.proj) := B2.cell 2
  have c3 : w1.cell? ⟨kf + 1, 3, none⟩ = some (.int .i64 s.rows) := B2.cell 3
  repeat' (first | (simp (disch := omega) only [push_cast, ↓reduceIte, zA, zG, zB, zH, zI, zC, zJ, zK, zL, zD, zE, zF, zM, zN, zO, zP, zQ, reduceCtorEq, not_true_eq_false, not_false_eq_true, c0, addr_add_eq, Nat.zero_add]) | (first | refine iE ?_ ?_ | refine iD ?_ ?_ | refine iQ ?_ ?_ | refine iV ?_ ?_) <;> intro _ | refine And.intro (by omega) ?_ | refine drawn_q ?_ | fail)
  refine (fname_c s.name w1 (Nat.le_trans hs.name (by unfold Bz; omega))).mono ?_
  rintro _ w0 ⟨rfl, h0⟩; obtain rfl := h0.symm
  cases hF : fnOk s.name with
  | false =>
    repeat' (first | (simp (disch := omega) only [push_cast, ↓reduceIte, zA, zG, zB, zH, zI, zC, zJ, zK, zL, zD, zE, zF, zM, zN, zO, zP, zQ, reduceCtorEq, not_true_eq_false, not_false_eq_true, c0, addr_add_eq, Nat.zero_add]) | (first | refine iE ?_ ?_ | refine iD ?_ ?_ | refine iQ ?_ ?_ | refine iV ?_ ?_) <;> intro _ | refine And.intro (by omega) ?_ | refine drawn_q ?_ | fail)
    all_goals first | exact fail _ l12 | trace_state
  | true =>
  by_cases n1 : s.name = (⟨#[109, 97, 110, 105, 102, 101, 115, 116]⟩ : ByteArray)
  case pos =>
    have e1 := decide_eq_true n1
    repeat' (first | (simp (disch := omega) only [push_cast, ↓reduceIte, zA, zG, zB, zH, zI, zC, zJ, zK, zL, zD, zE, zF, zM, zN, zO, zP, zQ, reduceCtorEq, not_true_eq_false, not_false_eq_true, c0, e1, addr_add_eq, Nat.zero_add]) | (first | refine iE ?_ ?_ | refine iD ?_ ?_ | refine iQ ?_ ?_ | refine iV ?_ ?_) <;> intro _ | refine And.intro (by omega) ?_ | refine drawn_q ?_ | fail)
    all_goals first | exact fail _ l12 | trace_state
  have e1 := decide_eq_false n1
  by_cases n2 : s.name = (⟨#[109, 97, 110, 105, 102, 101, 115, 116, 46, 110, 101, 119]⟩ : ByteArray)
  case pos =>
    have e2 := decide_eq_true n2
    repeat' (first | (simp (disch := omega) only [push_cast, ↓reduceIte, zA, zG, zB, zH, zI, zC, zJ, zK, zL, zD, zE, zF, zM, zN, zO, zP, zQ, reduceCtorEq, not_true_eq_false, not_false_eq_true, c0, e1, e2, addr_add_eq, Nat.zero_add]) | (first | refine iE ?_ ?_ | refine iD ?_ ?_ | refine iQ ?_ ?_ | refine iV ?_ ?_) <;> intro _ | refine And.intro (by omega) ?_ | refine drawn_q ?_ | fail)
    all_goals first | exact fail _ l12 | trace_state
  have e2 := decide_eq_false n2
  by_cases hr : 0 ≤ s.rows ∧ s.rows ≤ 65536
  case neg =>
    by_cases hr0 : s.rows < 0
    · have r1 := decide_eq_true hr0
      repeat' (first | (simp (disch := omega) only [push_cast, ↓reduceIte, zA, zG, zB, zH, zI, zC, zJ, zK, zL, zD, zE, zF, zM, zN, zO, zP, zQ, reduceCtorEq, not_true_eq_false, not_false_eq_true, c0, c3, e1, e2, r1, addr_add_eq, Nat.zero_add]) | (first | refine iE ?_ ?_ | refine iD ?_ ?_ | refine iQ ?_ ?_ | refine iV ?_ ?_) <;> intro _ | refine And.intro (by omega) ?_ | refine drawn_q ?_ | fail)
      all_goals first | exact fail _ l12 | trace_state
    · have r1 := decide_eq_false hr0
      have r2 : decide (65536 < s.rows) = true := decide_eq_true (by omega)
      repeat' (first | (simp (disch := omega) only [push_cast, ↓reduceIte, zA, zG, zB, zH, zI, zC, zJ, zK, zL, zD, zE, zF, zM, zN, zO, zP, zQ, reduceCtorEq, not_true_eq_false, not_false_eq_true, c0, c3, e1, e2, r1, r2, addr_add_eq, Nat.zero_add]) | (first | refine iE ?_ ?_ | refine iD ?_ ?_ | refine iQ ?_ ?_ | refine iV ?_ ?_) <;> intro _ | refine And.intro (by omega) ?_ | refine drawn_q ?_ | fail)
      all_goals first | exact fail _ l12 | trace_state
  have r1 : decide (s.rows < 0) = false := decide_eq_false (by omega)
  have r2 : decide (65536 < s.rows) = false := decide_eq_false (by omega)
  by_cases ht : (0 ≤ s.tier ∧ s.tier < (p.tl.length : Int)) ∧ -1 ≤ s.proj ∧ s.proj < (p.pl.length : Int)
  case neg =>
    by_cases h3 : s.tier < 0
    · have r3 := decide_eq_true h3
      repeat' (first | (simp (disch := omega) only [push_cast, ↓reduceIte, zA, zG, zB, zH, zI, zC, zJ, zK, zL, zD, zE, zF, zM, zN, zO, zP, zQ, reduceCtorEq, not_true_eq_false, not_false_eq_true, c0, c1, c2, c3, a0, a1, e1, e2, r1, r2, r3, addr_add_eq, Nat.zero_add]) | (first | refine iE ?_ ?_ | refine iD ?_ ?_ | refine iQ ?_ ?_ | refine iV ?_ ?_) <;> intro _ | refine And.intro (by omega) ?_ | refine drawn_q ?_ | fail)
      all_goals first | exact fail _ l12 | trace_state
    have r3 := decide_eq_false h3
    by_cases h4 : (p.tl.length : Int) ≤ s.tier
    · have r4 := decide_eq_true h4
      repeat' (first | (simp (disch := omega) only [push_cast, ↓reduceIte, zA, zG, zB, zH, zI, zC, zJ, zK, zL, zD, zE, zF, zM, zN, zO, zP, zQ, reduceCtorEq, not_true_eq_false, not_false_eq_true, c0, c1, c2, c3, a0, a1, e1, e2, r1, r2, r3, r4, addr_add_eq, Nat.zero_add]) | (first | refine iE ?_ ?_ | refine iD ?_ ?_ | refine iQ ?_ ?_ | refine iV ?_ ?_) <;> intro _ | refine And.intro (by omega) ?_ | refine drawn_q ?_ | fail)
      all_goals first | exact fail _ l12 | trace_state
    have r4 := decide_eq_false h4
    by_cases h5 : s.proj < -1
    · have r5 := decide_eq_true h5
      repeat' (first | (simp (disch := omega) only [push_cast, ↓reduceIte, zA, zG, zB, zH, zI, zC, zJ, zK, zL, zD, zE, zF, zM, zN, zO, zP, zQ, reduceCtorEq, not_true_eq_false, not_false_eq_true, c0, c1, c2, c3, a0, a1, e1, e2, r1, r2, r3, r4, r5, addr_add_eq, Nat.zero_add]) | (first | refine iE ?_ ?_ | refine iD ?_ ?_ | refine iQ ?_ ?_ | refine iV ?_ ?_) <;> intro _ | refine And.intro (by omega) ?_ | refine drawn_q ?_ | fail)
      all_goals first | exact fail _ l12 | trace_state
    have r5 := decide_eq_false h5
    have r6 : decide ((p.pl.length : Int) ≤ s.proj) = true := decide_eq_true (by omega)
    repeat' (first | (simp (disch := omega) only [push_cast, ↓reduceIte, zA, zG, zB, zH, zI, zC, zJ, zK, zL, zD, zE, zF, zM, zN, zO, zP, zQ, reduceCtorEq, not_true_eq_false, not_false_eq_true, c0, c1, c2, c3, a0, a1, e1, e2, r1, r2, r3, r4, r5, r6, addr_add_eq, Nat.zero_add]) | (first | refine iE ?_ ?_ | refine iD ?_ ?_ | refine iQ ?_ ?_ | refine iV ?_ ?_) <;> intro _ | refine And.intro (by omega) ?_ | refine drawn_q ?_ | fail)
    all_goals first | exact fail _ l12 | trace_state
  have r3 : decide (s.tier < 0) = false := decide_eq_false (by omega)
  have r4 : decide ((p.tl.length : Int) ≤ s.tier) = false := decide_eq_false (by omega)
  have r5 : decide (s.proj < -1) = false := decide_eq_false (by omega)
  have r6 : decide ((p.pl.length : Int) ≤ s.proj) = false := decide_eq_false (by omega)
  by_cases hq : s.proj = -1
  · have r7 : decide (s.proj = -1) = true := decide_eq_true hq
    repeat' (first | (simp (disch := omega) only [push_cast, ↓reduceIte, zA, zG, zB, zH, zI, zC, zJ, zK, zL, zD, zE, zF, zM, zN, zO, zP, zQ, reduceCtorEq, not_true_eq_false, not_false_eq_true, c0, c1, c2, c3, a0, a1, e1, e2, r1, r2, r3, r4, r5, r6, r7, addr_add_eq, Nat.zero_add]) | (first | refine iE ?_ ?_ | refine iD ?_ ?_ | refine iQ ?_ ?_ | refine iV ?_ ?_) <;> intro _ | refine And.intro (by omega) ?_ | refine drawn_q ?_ | fail)
    all_goals first | exact fail _ l12 | (refine fun w' hl => ⟨⟨true, rfl, fun _ => ?_⟩, l12.trans hl⟩; exact FlOk.mk hr ht.1 ht.2 (fun h => absurd hq h)) | trace_state
  have r7 : decide (s.proj = -1) = false := decide_eq_false hq
  have hpl : s.proj.toNat < p.pl.length := by omega
  have h4 := p1.pv
  rw [hpv] at h4
  obtain ⟨pa, rfl, _⟩ := RecS.at cdC_len h4 hpl
  have t0 := RecS.cell (j := 0) cdC_len h4 hpl rfl
  rw [addr_add_add, Nat.add_zero] at t0
  repeat' (first | (simp (disch := omega) only [push_cast, ↓reduceIte, zA, zG, zB, zH, zI, zC, zJ, zK, zL, zD, zE, zF, zM, zN, zO, zP, zQ, reduceCtorEq, not_true_eq_false, not_false_eq_true, c0, c1, c2, c3, a0, a1, t0, e1, e2, r1, r2, r3, r4, r5, r6, r7, addr_add_eq, Nat.zero_add]) | (first | refine iE ?_ ?_ | refine iD ?_ ?_ | refine iQ ?_ ?_ | refine iV ?_ ?_) <;> intro _ | refine And.intro (by omega) ?_ | refine drawn_q ?_ | fail)
  all_goals first | exact fail _ l12 | (refine fun w' hl => ⟨⟨decide (p.pl[s.proj.toNat].a = s.tier), rfl, fun h => ?_⟩, l12.trans hl⟩; exact FlOk.mk hr ht.1 ht.2 (fun _ => ⟨hpl, of_decide_eq_true h⟩)) | trace_state
end Go.Proofs.Ytnofalhkapmcnaa
end
section
set_option linter.unusedSimpArgs false
namespace Go.Vc
open Go.RowKit
def PtW (w0 : World) (e : TypeId) (cs : Array Value) (v : Value) (w : World) : Prop := ∃ b, v = .pointer (some ⟨b, 0, none⟩) ∧ w0.heap.size ≤ b ∧ Blk w b cs e
theorem stb_ptw (w0 w1 : World) (e : TypeId) (cs : Array Value) : Stb w1 (PtW w0 e cs) := by
  rintro v w w' _ hl ⟨b, rfl, hb, h⟩
  exact ⟨b, rfl, hb, h.chg (Chg.of_later (ks := []) hl) (by simp)⟩
theorem nP_bld {P : Program} {t : TypeId} {ps : Array (Nat × Operand)} {ty : TypeId} {σ : Env} {w : World} {Kv : Value → Prop} {Kn : (Value → World → Prop) → Prop} (v : Value) (h : ∀ w', vBuild P t (ps.map fun (i, x) => (i, ev σ x)) (fun u w'' => u = v ∧ w'' = w') w') (hk : Kv v) : nPlain P (.build t ps) ty σ w Kv Kn := by
  show qX P (.build t ps) ty σ w Kv
  refine ⟨v, fun w' _ => ?_, hk⟩
  have h1 := h w'
  unfold vBuild at h1
  show qUp P w' v ((val (Instr.build t (ps.map fun (i, x) => (i, ev σ x)))).run P w')
  have e : ∀ s : Sem Value, (val s).run P w' = (s.run P w').andThen fun v w' => .ok (.value v) w' := fun s => by simp [val]
  rw [e] at h1 ⊢
  cases hs : (Instr.build t (ps.map fun (i, x) => (i, ev σ x))).run P w' with
  | ok u w'' => rw [hs] at h1; exact ⟨h1.2, h1.1⟩
  | _ => rw [hs] at h1; exact h1.elim
/-- A plan. -/
structure PN where
  fr : Int
  to : Int
  tier : Int
  proj : Int
  rows : Int
deriving DecidableEq
def pnC (p : PN) : List Value := [.int .i64 p.fr, .int .i64 p.to, .int .i64 p.tier, .int .i64 p.proj, .int .i64 p.rows]
theorem pnC_len (p : PN) : (pnC p).length = 5 := rfl
theorem pnC_one (p : PN) : ∀ u ∈ pnC p, u.oneCell' = true := by
  intro u hu
  simp only [pnC, List.mem_cons, List.not_mem_nil, or_false] at hu
  rcases hu with rfl | rfl | rfl | rfl | rfl <;> rfl
/-- Up to where the tier i has rows of a query. -/
def uptoI (to : Int) (el : List Int) : Nat → Int
  | 0 => to
  | i + 1 => min to (el.getD i 0)
def strI (fr to : Int) (el : List Int) (i : Nat) : PN := ⟨max fr (el.getD i 0), uptoI to el i, (i : Int), -1, 0⟩
def strL (fr to : Int) (el : List Int) (n : Nat) : List PN := ((List.range n).map (strI fr to el)).filter fun x => decide (x.fr < x.to)
theorem strL_succ (fr to : Int) (el : List Int) (n : Nat) : strL fr to el (n + 1) = strL fr to el n ++ (if (strI fr to el n).fr < (strI fr to el n).to then [strI fr to el n] else []) := by
  unfold strL
  rw [List.range_succ, List.map_append, List.filter_append]
  congr 1
  by_cases h : (strI fr to el n).fr < (strI fr to el n).to
  · rw [if_pos h]; simp [h]
  · rw [if_neg h]; simp [h]
theorem strL_len (fr to : Int) (el : List Int) (n : Nat) : (strL fr to el n).length ≤ n := by
  unfold strL
  have := List.length_filter_le (fun x : PN => decide (x.fr < x.to)) ((List.range n).map (strI fr to el))
  simpa using this
/-- Edges that fall. -/
def Fall (el : List Int) : Prop := ∀ i, i + 1 < el.length → el.getD (i + 1) 0 ≤ el.getD i 0
theorem upto_step {to : Int} {el : List Int} (h : Fall el) {i : Nat} (hi : i < el.length) : min (uptoI to el i) (el.getD i 0) = uptoI to el (i + 1) := by
  cases i with
  | zero => rfl
  | succ i =>
    have := h i hi
    show min (min to (el.getD i 0)) (el.getD (i + 1) 0) = min to (el.getD (i + 1) 0)
    omega
end Go.Vc
namespace Go.Proofs.Ytnofalhkapmcnaa
open Go.Vc Go.Key
set_option maxRecDepth 100000
abbrev OwnN (w : World) (B : Nat) (v : Value) (l : List PN) : Prop := OwnR pnC 5 w B 49 v l
theorem vAppend_pn {w : World} {K : Value → World → Prop} {ty : TypeId} {B : Nat} {v x : Value} {l r : List PN} (hown : OwnN w B v l) (hx : RecS pnC 5 w x r) (h63 : l.length + r.length ≤ 1000000000) (hbase : B ≤ w.heap.size)
    (hK : ∀ v' w', OwnN w' B v' (l ++ r) → w.grownBy w' v.ownBlock → (v'.ownBlock = v.ownBlock ∨ v'.ownBlock = some w.heap.size) → K v' w') : vAppend Try.prog #[45, 45] ty #[v, x] K w :=
  vAppend_rs pnC_len pnC_one Try.underlying45 ti49 rfl (by decide) hown hx h63 (by decide) hbase hK
@[push_cast] theorem bsl_pn {K : Value → World → Prop} {w : World} (x : PN) : vBuildSlice Try.prog 45 1 #[(0, .agg (pnC x).toArray)] K w = K (.slice (some ⟨w.heap.size, 0, none⟩) 1 1) (w.alloc (.cells (pnC x).toArray 49)) := bsl45_1_Codes7A _ _ _ _ _
theorem int_at {w : World} {o : Option Addr} {n c : Nat} {l : List Int} (h : Sl w (.slice o n c) (l.map (Value.int .i64))) {i : Nat} (hi : i < l.length) : ∃ a, o = some a ∧ w.cell? (a.add i) = some (.int .i64 (l.getD i 0)) := by
  obtain ⟨a, rfl⟩ := Sl.some h hi
  refine ⟨a, rfl, Sl.at h ?_⟩
  simp [hi, List.getD_eq_getElem?_getD]
theorem qdc_at {w : World} {k : Nat} {q : QD} (B : Blk w k (qdC q).toArray 42) : w.cell? ⟨k, 1, none⟩ = some (.int .i64 q.fr) ∧ w.cell? ⟨k, 2, none⟩ = some (.int .i64 q.to) ∧ w.cell? ⟨k, 3, none⟩ = some (.int .i64 q.ev) := ⟨B.cell 1, B.cell 2, B.cell 3⟩
set_option maxHeartbeats 2000000 in
theorem stretches_c (p : PD) (ev : Value) (el : List Int) (q : QD) (w : World) (hp : p.Ok w) (he : Sl w ev (el.map (Value.int .i64))) (hq : q.Ok w) (hel : el.length = p.tl.length) (hF : Fall el) (hpl : p.tl.length ≤ 100) : FnC Try.prog 14 #[.agg (pdC p).toArray, ev, .agg (qdC q).toArray] w fun v w' => OwnN w' w.heap.size v (strL q.fr q.to el p.tl.length) ∧ Later w w' := by
  obtain ⟨to, tc, htv, ht1, ht2⟩ := RecS.slice hp.tv
  obtain ⟨eo, ec, rfl, he1, he2, he, he0⟩ := he.openM
  rw [hel] at he
  refine enter14 _ _ _ ?_
  unfold B14
  have eca : (Value.agg (pdC p).toArray).cells = (pdC p).toArray := rfl
  have ecb : (Value.agg (qdC q).toArray).cells = (qdC q).toArray := rfl
  have l1 := later_alloc w (.cells (pdC p).toArray 28)
  have s1 : (w.alloc (.cells (pdC p).toArray 28)).heap.size = w.heap.size + 1 := World.size_alloc _ _
  have B1 := Blk.new w (pdC p).toArray 28
  have l2 := later_alloc (w.alloc (.cells (pdC p).toArray 28)) (.cells (qdC q).toArray 42)
  have B2 := Blk.new (w.alloc (.cells (pdC p).toArray 28)) (qdC q).toArray 42
  rw [s1] at B2
  have B1 := pdLater B1 l2
  repeat' (first | (simp (disch := omega) only [push_cast, ↓reduceIte, zA, zG, zB, zH, zI, zC, zJ, zK, zL, zD, zE, zF, zM, zN, zO, zP, zQ, reduceCtorEq, not_true_eq_false, not_false_eq_true, eca, ecb, s1, hel]) | (first | refine iE ?_ ?_ | refine iD ?_ ?_ | refine iQ ?_ ?_ | refine iV ?_ ?_) <;> intro _ | refine And.intro (by omega) ?_ | fail)
  have l12 := l1.trans l2
  generalize (w.alloc (.cells (pdC p).toArray 28)).alloc (.cells (qdC q).toArray 42) = w1 at *
  generalize hkf : w.heap.size = kf at *
  obtain ⟨a0, _, _⟩ := pdAt B1
  rw [htv] at a0
  obtain ⟨b1, b2, b3⟩ := qdc_at B2
  repeat' (first | (simp (disch := omega) only [push_cast, ↓reduceIte, zA, zG, zB, zH, zI, zC, zJ, zK, zL, zD, zE, zF, zM, zN, zO, zP, zQ, reduceCtorEq, not_true_eq_false, not_false_eq_true, a0, b2, addr_add_eq, Nat.zero_add]) | (first | refine iE ?_ ?_ | refine iD ?_ ?_ | refine iQ ?_ ?_ | refine iV ?_ ?_) <;> intro _ | refine And.intro (by omega) ?_ | fail)
  have hb : kf ≤ w1.heap.size := by rw [← hkf]; exact l12.size
  refine vc_loop W14_0 (fun p : Nat × Value => [(7, p.2), (8, .int .i64 (uptoI q.to el p.1)), (16, .int .i64 (p.1 : Int))]) (fun p1 w' => p1.1 ≤ p.tl.length ∧ Later w1 w' ∧ OwnN w' w1.heap.size p1.2 (strL q.fr q.to el p1.1)) (fun p1 => p.tl.length - p1.1) (0, .slice none 0 0) (by decide) ?_ ?_ ?_
  · simp (disch := omega) only [push_cast, ↓reduceIte, zA, zG, zB, zH, zI, zC, zJ, zK, zL, zD, zE, zF, zM, zN, zO, zP, zQ, reduceCtorEq, not_true_eq_false, not_false_eq_true]
    try rfl
  · exact ⟨Nat.zero_le _, Later.refl _, OwnR.nil _ _ _⟩
  rintro ⟨i, x⟩ uu w2 ⟨hi, l2, ho⟩
  dsimp only at hi ho ⊢
  obtain ⟨c1, c2, c3⟩ := qdc_at (qdLater B2 l2)
  by_cases hik : i < p.tl.length
  · have hd2 : decide ((i : Int) < (p.tl.length : Int)) = true := decide_eq_true (by omega)
    obtain ⟨a, rfl, fa⟩ := int_at (l := el) (by rw [← hel] at he; exact Sl.later he (l12.trans l2)) (i := i) (by omega)
    have hus := upto_step (to := q.to) hF (i := i) (by omega)
    repeat' (first | (simp (disch := omega) only [push_cast, ↓reduceIte, zA, zG, zB, zH, zI, zC, zJ, zK, zL, zD, zE, zF, zM, zN, zO, zP, zQ, reduceCtorEq, not_true_eq_false, not_false_eq_true, hd2, hel]) | (first | refine iE ?_ ?_ | refine iD ?_ ?_ | refine iQ ?_ ?_ | refine iV ?_ ?_) <;> intro _ | refine And.intro (by omega) ?_ | fail)
    refine drawn_l ?_
    repeat' (first | (simp (disch := omega) only [push_cast, ↓reduceIte, zA, zG, zB, zH, zI, zC, zJ, zK, zL, zD, zE, zF, zM, zN, zO, zP, zQ, reduceCtorEq, not_true_eq_false, not_false_eq_true, c1, fa, addr_add_eq, Nat.zero_add]) | (first | refine iE ?_ ?_ | refine iD ?_ ?_ | refine iQ ?_ ?_ | refine iV ?_ ?_) <;> intro _ | refine And.intro (by omega) ?_ | fail)
    refine nP_bld (.agg (pnC (strI q.fr q.to el i)).toArray) (fun w' => ?_) ?_
    · repeat' (first | (simp (disch := omega) only [push_cast, ↓reduceIte, zA, zG, zB, zH, zI, zC, zJ, zK, zL, zD, zE, zF, zM, zN, zO, zP, zQ, reduceCtorEq, not_true_eq_false, not_false_eq_true]) | (first | refine iE ?_ ?_ | refine iD ?_ ?_ | refine iQ ?_ ?_ | refine iV ?_ ?_) <;> intro _ | refine And.intro (by omega) ?_ | fail)
      rfl
    repeat' (first | (simp (disch := omega) only [push_cast, ↓reduceIte, zA, zG, zB, zH, zI, zC, zJ, zK, zL, zD, zE, zF, zM, zN, zO, zP, zQ, reduceCtorEq, not_true_eq_false, not_false_eq_true]) | (first | refine iE ?_ ?_ | refine iD ?_ ?_ | refine iQ ?_ ?_ | refine iV ?_ ?_) <;> intro _ | refine And.intro (by omega) ?_ | fail)
    refine nA_of _ (PtW w2 49 #[.int .i64 0, .int .i64 0, .int .i64 0, .int .i64 0, .int .i64 0]) (stb_ptw _ _ _ _) (fun w' hl => ?_) ?_
    · repeat' (first | (simp (disch := omega) only [push_cast, ↓reduceIte, zA, zG, zB, zH, zI, zC, zJ, zK, zL, zD, zE, zF, zM, zN, zO, zP, zQ, reduceCtorEq, not_true_eq_false, not_false_eq_true]) | (first | refine iE ?_ ?_ | refine iD ?_ ?_ | refine iQ ?_ ?_ | refine iV ?_ ?_) <;> intro _ | refine And.intro (by omega) ?_ | fail)
      exact ⟨later_alloc _ _, w'.heap.size, rfl, hl.size, Blk.new _ _ _⟩
    repeat' (first | (simp (disch := omega) only [push_cast, ↓reduceIte, zA, zG, zB, zH, zI, zC, zJ, zK, zL, zD, zE, zF, zM, zN, zO, zP, zQ, reduceCtorEq, not_true_eq_false, not_false_eq_true]) | (first | refine iE ?_ ?_ | refine iD ?_ ?_ | refine iQ ?_ ?_ | refine iV ?_ ?_) <;> intro _ | refine And.intro (by omega) ?_ | fail)
    rintro w3 l3 _ ⟨b, rfl, hb3, Bb⟩
    repeat' (first | (simp (disch := omega) only [push_cast, ↓reduceIte, zA, zG, zB, zH, zI, zC, zJ, zK, zL, zD, zE, zF, zM, zN, zO, zP, zQ, reduceCtorEq, not_true_eq_false, not_false_eq_true]) | (first | refine iE ?_ ?_ | refine iD ?_ ?_ | refine iQ ?_ ?_ | refine iV ?_ ?_) <;> intro _ | refine And.intro (by omega) ?_ | fail)
    refine vStore_blk (l := [.int .i64 0, .int .i64 0, .int .i64 0, .int .i64 0, .int .i64 0]) (xs := pnC (strI q.fr q.to el i)) Bb rfl rfl (pnC_one _) ?_
    intro w4 B4 c4
    have l24 : Later w2 w4 := Chg.later l3 c4 (by intro j hj; rw [List.mem_singleton.1 hj]; exact hb3)
    have ho4 := ho.later l24
    have f4 : cellsAt w4 ⟨b, 0, none⟩ 5 = some (pnC (strI q.fr q.to el i)) := Blk.cellsAt (l := pnC (strI q.fr q.to el i)) B4
    have g0 : w4.cell? ⟨b, 0, none⟩ = some (.int .i64 (strI q.fr q.to el i).fr) := B4.cell 0
    have g1 : w4.cell? ⟨b, 1, none⟩ = some (.int .i64 (strI q.fr q.to el i).to) := B4.cell 1
    have fa4 : w4.cell? (a.add i) = some (.int .i64 (el.getD i 0)) := l24.cell fa
    have hsc := strL_succ q.fr q.to el i
    have hll := strL_len q.fr q.to el i
    have l04 := l2.trans l24
    by_cases hlt : (strI q.fr q.to el i).fr < (strI q.fr q.to el i).to
    · rw [if_pos hlt] at hsc
      generalize strI q.fr q.to el i = X at *
      have hd3 := decide_eq_true hlt
      repeat' (first | (simp (disch := omega) only [push_cast, ↓reduceIte, zA, zG, zB, zH, zI, zC, zJ, zK, zL, zD, zE, zF, zM, zN, zO, zP, zQ, reduceCtorEq, not_true_eq_false, not_false_eq_true, g0, g1, hd3, f4, addr_add_eq, Nat.zero_add]) | (first | refine iE ?_ ?_ | refine iD ?_ ?_ | refine iQ ?_ ?_ | refine iV ?_ ?_) <;> intro _ | refine And.intro (by omega) ?_ | fail)
      have la := later_alloc w4 (.cells (pnC X).toArray 49)
      have Bl := Blk.new w4 (pnC X).toArray 49
      generalize w4.alloc (.cells (pnC X).toArray 49) = w5 at *
      have ho5 := ho4.later la
      refine vAppend_pn (r := [X]) ho5 (RecS.lit1 (pnC_len X) Bl) (by simp only [List.length_cons, List.length_nil]; omega) (Nat.le_trans l04.size la.size) ?_
      intro v' w6 ho6 hg _
      have l6 := (l04.trans la).appended ho5 (Nat.le_refl _) hg
      obtain ⟨_, hfa, fa6⟩ := int_at (l := el) (by rw [← hel] at he; exact Sl.later he (l12.trans l6)) (i := i) (by omega)
      obtain rfl := Option.some.inj hfa
      repeat' (first | (simp (disch := omega) only [push_cast, ↓reduceIte, zA, zG, zB, zH, zI, zC, zJ, zK, zL, zD, zE, zF, zM, zN, zO, zP, zQ, reduceCtorEq, not_true_eq_false, not_false_eq_true, fa6, hus, addr_add_eq, Nat.zero_add]) | (first | refine iE ?_ ?_ | refine iD ?_ ?_ | refine iQ ?_ ?_ | refine iV ?_ ?_) <;> intro _ | refine And.intro (by omega) ?_ | fail)
      refine ⟨rfl, (i + 1, v'), by simp (disch := omega) only [push_cast, ↓reduceIte, zA, zG, zB, zH, zI, zC, zJ, zK, zL, zD, zE, zF, zM, zN, zO, zP, zQ, reduceCtorEq, not_true_eq_false, not_false_eq_true], ⟨by dsimp only; omega, l6, by dsimp only; rw [hsc]; exact ho6⟩, by dsimp only; omega⟩
    · rw [if_neg hlt, List.append_nil] at hsc
      generalize strI q.fr q.to el i = X at *
      have hd3 := decide_eq_false hlt
      repeat' (first | (simp (disch := omega) only [push_cast, ↓reduceIte, zA, zG, zB, zH, zI, zC, zJ, zK, zL, zD, zE, zF, zM, zN, zO, zP, zQ, reduceCtorEq, not_true_eq_false, not_false_eq_true, g0, g1, hd3, f4, fa4, hus, addr_add_eq, Nat.zero_add]) | (first | refine iE ?_ ?_ | refine iD ?_ ?_ | refine iQ ?_ ?_ | refine iV ?_ ?_) <;> intro _ | refine And.intro (by omega) ?_ | fail)
      refine ⟨rfl, (i + 1, x), by simp (disch := omega) only [push_cast, ↓reduceIte, zA, zG, zB, zH, zI, zC, zJ, zK, zL, zD, zE, zF, zM, zN, zO, zP, zQ, reduceCtorEq, not_true_eq_false, not_false_eq_true], ⟨by dsimp only; omega, l04, by dsimp only; rw [hsc]; exact ho4⟩, by dsimp only; omega⟩
  · have hd2 : decide ((i : Int) < (p.tl.length : Int)) = false := decide_eq_false (by omega)
    obtain rfl : i = p.tl.length := by omega
    repeat' (first | (simp (disch := omega) only [push_cast, ↓reduceIte, zA, zG, zB, zH, zI, zC, zJ, zK, zL, zD, zE, zF, zM, zN, zO, zP, zQ, reduceCtorEq, not_true_eq_false, not_false_eq_true, hd2]) | (first | refine iE ?_ ?_ | refine iD ?_ ?_ | refine iQ ?_ ?_ | refine iV ?_ ?_) <;> intro _ | refine And.intro (by omega) ?_ | fail)
    first | exact ⟨(ho.base hb), (l12.trans l2)⟩ | exact (l12.trans l2)
end Go.Proofs.Ytnofalhkapmcnaa
end
section
set_option linter.unusedSimpArgs false
namespace Go.Proofs.Ytnofalhkapmcnaa
open Go.Vc Go.Key
set_option maxRecDepth 100000
end Go.Proofs.Ytnofalhkapmcnaa
end
section
set_option linter.unusedSimpArgs false
namespace Go.Vc
open Go.Op
section
variable {P : Program} {t : TypeId} {f0 f1 f2 f3 f4 : Field} (ht : P.underlying t = some (.struct #[f0, f1, f2, f3, f4])) (h0 : P.underlying f0.type = some (.int .i64)) (h1 : P.underlying f1.type = some (.int .i64)) (h2 : P.underlying f2.type = some (.int .i64)) (h3 : P.underlying f3.type = some (.int .i64)) (h4 : P.underlying f4.type = some (.int .i64))
    (o : (f0.offset, f1.offset, f2.offset, f3.offset, f4.offset) = (0, 1, 2, 3, 4)) (n0 : f0.name ≠ "_") (n1 : f1.name ≠ "_") (n2 : f2.name ≠ "_") (n3 : f3.name ≠ "_") (n4 : f4.name ≠ "_") (hp : P.stoodInHeld t = false) (hm : P.eqGuardType P.depth t = false)
include ht h0 h1 h2 h3 h4 o n0 n1 n2 n3 n4 hp hm
theorem run_five_eql (x y : Operand) (a b : PN) (w : World) :
    (do eqGuard .eql t x y (.agg (pnC a).toArray) (.agg (pnC b).toArray); binOp .eql t (.agg (pnC a).toArray) (.agg (pnC b).toArray)).run P w = .ok (.bool (decide (a = b))) w := by
  simp only [Prod.mk.injEq] at o
  obtain ⟨o0, o1, o2, o3, o4⟩ := o
  obtain ⟨a0, a1, a2, a3, a4⟩ := a
  obtain ⟨b0, b1, b2, b3, b4⟩ := b
  have hf : P.fieldsOf t = #[f0, f1, f2, f3, f4] := by unfold Program.fieldsOf; rw [ht]
  have hs : P.underlying t = some (.struct (P.fieldsOf t)) := by rw [hf]; exact ht
  have hd : (decide ((⟨a0, a1, a2, a3, a4⟩ : PN) = ⟨b0, b1, b2, b3, b4⟩)) = (a0 == b0 && (a1 == b1 && (a2 == b2 && (a3 == b3 && a4 == b4)))) := by
    rw [Bool.eq_iff_iff]; simp
  rw [hd]
  unfold pnC
  simp only [Sem.run_bind, run_eqGuard_agg w .eql t x y _ _ hm, Result.andThen_ok, run_eql_struct, run_equalIn_agg w 9999 t _ _ hs hp, hf]
  have i0 : ∀ w' : World, (isAgg f0.type).run P w' = .ok false w' := run_isAgg (by rw [h0]; rfl)
  have i1 : ∀ w' : World, (isAgg f1.type).run P w' = .ok false w' := run_isAgg (by rw [h1]; rfl)
  have i2 : ∀ w' : World, (isAgg f2.type).run P w' = .ok false w' := run_isAgg (by rw [h2]; rfl)
  have i3 : ∀ w' : World, (isAgg f3.type).run P w' = .ok false w' := run_isAgg (by rw [h3]; rfl)
  have i4 : ∀ w' : World, (isAgg f4.type).run P w' = .ok false w' := run_isAgg (by rw [h4]; rfl)
  by_cases e1 : a0 = b0 <;> by_cases e2 : a1 = b1 <;> by_cases e3 : a2 = b2 <;> by_cases e4 : a3 = b3 <;> by_cases e5 : a4 = b4 <;> simp [Op.eqFields, n0, n1, n2, n3, n4, part, i0, i1, i2, i3, i4, o0, o1, o2, o3, o4, run_equalIn_int _ _ _ _ _ _ _ h0, run_equalIn_int _ _ _ _ _ _ _ h1, run_equalIn_int _ _ _ _ _ _ _ h2, run_equalIn_int _ _ _ _ _ _ _ h3, run_equalIn_int _ _ _ _ _ _ _ h4, e1, e2, e3, e4, e5]
end
end Go.Vc
namespace Go.Proofs.Ytnofalhkapmcnaa
open Go.Vc Go.Key Go.Op
set_option maxRecDepth 100000
theorem vBin_pn (x y : Operand) (a b : PN) {K : Value → World → Prop} {w : World} (hk : K (.bool (decide (a = b))) w) : vBin Try.prog .eql 49 x y (.agg (pnC a).toArray) (.agg (pnC b).toArray) K w := by
  show vcUp Try.prog K ((val (do eqGuard .eql 49 x y _ _; binOp .eql 49 _ _)).run Try.prog w)
  rw [run_val_pure (run_five_eql Try.underlying49 Try.underlying3 Try.underlying3 Try.underlying3 Try.underlying3 Try.underlying3 rfl (by decide) (by decide) (by decide) (by decide) (by decide) (by kernel_rfl) (by kernel_rfl) x y a b w)]
  exact hk
end Go.Proofs.Ytnofalhkapmcnaa
end
section
set_option linter.unusedSimpArgs false
namespace Go.Vc
open Go.Key
theorem resK_cells {P : Program} {R : Value → World → Prop} {σ : Env} {w : World} {a s : Nat} {t : TypeId} {rs : List ResultVar} {acc l : List Value} {ad : Addr} (ha : σ a = .pointer (some ad)) (hA : aggD P t (P.underlying t) = some s) (hl : cellsAt w ad s = some l)
    (hR : resK P rs (acc ++ [.agg l.toArray]) σ R w) : resK P (.cell a t :: rs) acc σ R w := by
  unfold resK
  rw [ha]
  obtain ⟨h1, h2⟩ := run_isAgg_yes hA w
  exact ⟨.agg l.toArray, by simp [loadVar, h1, run_sizeOf h2, run_loadCells' hl], hR⟩
instance : Inhabited CD := ⟨⟨0, 0, .slice none 0 0, []⟩⟩
/-- A plan's cuboid: its granularity, its dimensions. -/
def cub (p : PD) (x : PN) : CD := if x.proj = -1 then p.tl.getD x.tier.toNat default else p.pl.getD x.proj.toNat default
structure PnIn (p : PD) (x : PN) : Prop where
  t : 0 ≤ x.tier ∧ x.tier < (p.tl.length : Int)
  j : -1 ≤ x.proj ∧ x.proj < (p.pl.length : Int)
theorem cub_own {p : PD} {x : PN} (h : x.proj = -1) (ht : x.tier.toNat < p.tl.length) : cub p x = p.tl[x.tier.toNat] := by
  unfold cub; rw [if_pos h, List.getD_eq_getElem?_getD, List.getElem?_eq_getElem ht]; rfl
theorem cub_proj {p : PD} {x : PN} (h : x.proj ≠ -1) (ht : x.proj.toNat < p.pl.length) : cub p x = p.pl[x.proj.toNat] := by
  unfold cub; rw [if_neg h, List.getD_eq_getElem?_getD, List.getElem?_eq_getElem ht]; rfl
theorem cub_ok {w : World} {p : PD} {x : PN} (hp : p.Ok w) (hx : PnIn p x) : (cub p x).Ok w := by
  by_cases h : x.proj = -1
  · have ht : x.tier.toNat < p.tl.length := by have := hx.t; omega
    rw [cub_own h ht]
    exact hp.tl _ (List.getElem_mem ht)
  · have hj : x.proj.toNat < p.pl.length := by have := hx.j; omega
    rw [cub_proj h hj]
    exact hp.pl _ (List.getElem_mem hj)
end Go.Vc
namespace Go.Proofs.Ytnofalhkapmcnaa
open Go.Vc Go.Key
set_option maxRecDepth 100000
theorem pnB {w : World} {b : Nat} {x : PN} (B : Blk w b (pnC x).toArray 49) : w.cell? ⟨b, 0, none⟩ = some (.int .i64 x.fr) ∧ w.cell? ⟨b, 1, none⟩ = some (.int .i64 x.to) ∧ w.cell? ⟨b, 2, none⟩ = some (.int .i64 x.tier) ∧ w.cell? ⟨b, 3, none⟩ = some (.int .i64 x.proj) ∧ w.cell? ⟨b, 4, none⟩ = some (.int .i64 x.rows) := ⟨B.cell 0, B.cell 1, B.cell 2, B.cell 3, B.cell 4⟩
theorem scuboid_c (p : PD) (x : PN) (w : World) (hp : p.Ok w) (hx : PnIn p x) : FnC Try.prog 35 #[.agg (pdC p).toArray, .agg (pnC x).toArray] w fun v w' => (∃ t : Int, v = .agg #[.int .i64 t, .int .i64 (cub p x).g, (cub p x).dv]) ∧ Later w w' := by
  obtain ⟨to, tc, htv, ht1, ht2⟩ := RecS.slice hp.tv
  obtain ⟨po, pc, hpv, hp1, hp2⟩ := RecS.slice hp.pv
  refine enter35 _ _ ?_
  unfold B35
  have eca : (Value.agg (pdC p).toArray).cells = (pdC p).toArray := rfl
  have ecb : (Value.agg (pnC x).toArray).cells = (pnC x).toArray := rfl
  have l1 := later_alloc w (.cells (pdC p).toArray 28)
  have s1 : (w.alloc (.cells (pdC p).toArray 28)).heap.size = w.heap.size + 1 := World.size_alloc _ _
  have B1 := Blk.new w (pdC p).toArray 28
  have l2 := later_alloc (w.alloc (.cells (pdC p).toArray 28)) (.cells (pnC x).toArray 49)
  have B2 := Blk.new (w.alloc (.cells (pdC p).toArray 28)) (pnC x).toArray 49
  rw [s1] at B2
  have B1 := pdLater B1 l2
  have s2 : ((w.alloc (.cells (pdC p).toArray 28)).alloc (.cells (pnC x).toArray 49)).heap.size = w.heap.size + 2 := by rw [World.size_alloc, s1]
  repeat' (first | (simp (disch := omega) only [push_cast, ↓reduceIte, zA, zG, zB, zH, zI, zC, zJ, zK, zL, zD, zE, zF, zM, zN, zO, zP, zQ, reduceCtorEq, not_true_eq_false, not_false_eq_true, eca, ecb, s1]) | (first | refine iE ?_ ?_ | refine iD ?_ ?_ | refine iQ ?_ ?_ | refine iV ?_ ?_) <;> intro _ | refine And.intro (by omega) ?_ | fail)
  have l12 := l1.trans l2
  generalize (w.alloc (.cells (pdC p).toArray 28)).alloc (.cells (pnC x).toArray 49) = w1 at *
  generalize hkf : w.heap.size = kf at *
  have l3 := later_alloc w1 (.cells #[.int .i64 0, .int .i64 0, .slice none 0 0] 51)
  have B3 := Blk.new w1 #[.int .i64 0, .int .i64 0, .slice none 0 0] 51
  rw [s2] at B3
  rw [s2]
  have s3 : (w1.alloc (.cells #[.int .i64 0, .int .i64 0, .slice none 0 0] 51)).heap.size = kf + 3 := by rw [World.size_alloc, s2]
  generalize w1.alloc (.cells #[.int .i64 0, .int .i64 0, .slice none 0 0] 51) = w2 at *
  have l13 := l12.trans l3
  have B1 := pdLater B1 l3
  have B2 := B2.chg (Chg.of_later (ks := []) l3) (by simp)
  obtain ⟨a0, a1, _⟩ := pdAt B1
  obtain ⟨b0, b1, b2, b3, b4⟩ := pnB B2
  rw [htv] at a0
  rw [hpv] at a1
  have htt := hx.t
  have hjj := hx.j
  by_cases hpj : x.proj = -1
  · have hti : x.tier.toNat < p.tl.length := by omega
    have hok := cub_ok (hp.later l13) hx
    rw [cub_own hpj hti] at hok ⊢
    have d1 := decide_eq_true hpj
    have h4 := (hp.later l13).tv
    rw [htv] at h4
    obtain ⟨ta, rfl, fa⟩ := RecS.at cdC_len h4 hti
    generalize p.tl[x.tier.toNat] = T at *
    repeat' (first | (simp (disch := omega) only [push_cast, ↓reduceIte, zA, zG, zB, zH, zI, zC, zJ, zK, zL, zD, zE, zF, zM, zN, zO, zP, zQ, reduceCtorEq, not_true_eq_false, not_false_eq_true, b2, b3, a0, d1, fa, addr_add_eq, Nat.zero_add]) | (first | refine iE ?_ ?_ | refine iD ?_ ?_ | refine iQ ?_ ?_ | refine iV ?_ ?_) <;> intro _ | refine And.intro (by omega) ?_ | fail)
    refine vStore_tier T w2 hok ?_
    have B4 := Blk.new w2 (cdC T).toArray 60
    have l4 := later_alloc w2 (.cells (cdC T).toArray 60)
    rw [s3] at B4 ⊢
    generalize w2.alloc (.cells (cdC T).toArray 60) = w3 at *
    have c1 : w3.cell? ⟨kf + 3, 1, none⟩ = some (.int .i64 T.g) := B4.cell 1
    have c2 : w3.cell? ⟨kf + 3, 2, none⟩ = some T.dv := B4.cell 2
    have b2' := l4.cell b2
    obtain ⟨o, k, hv⟩ := Sl.slice hok.dv
    rw [hv] at c2 ⊢
    repeat' (first | (simp (disch := omega) only [push_cast, ↓reduceIte, zA, zG, zB, zH, zI, zC, zJ, zK, zL, zD, zE, zF, zM, zN, zO, zP, zQ, reduceCtorEq, not_true_eq_false, not_false_eq_true, b2', c1, c2, addr_add_eq, Nat.zero_add]) | (first | refine iE ?_ ?_ | refine iD ?_ ?_ | refine iQ ?_ ?_ | refine iV ?_ ?_) <;> intro _ | refine And.intro (by omega) ?_ | fail)
    have B3 := B3.chg (Chg.of_later (ks := []) l4) (by simp)
    refine vStore_blk (l := [.int .i64 0, .int .i64 0, .slice none 0 0]) (xs := [.int .i64 x.tier, .int .i64 T.g, .slice o (T.dl.map Value.string).length k]) B3 rfl rfl (by intro u hu; simp at hu; rcases hu with rfl | rfl | rfl <;> rfl) ?_
    intro w5 B5 c5
    have hl5 : Later w w5 := Chg.later (l13.trans l4) c5 (by intro j hj; rw [List.mem_singleton.1 hj, hkf]; omega)
    repeat' (first | (simp (disch := omega) only [push_cast, ↓reduceIte, zA, zG, zB, zH, zI, zC, zJ, zK, zL, zD, zE, zF, zM, zN, zO, zP, zQ, reduceCtorEq, not_true_eq_false, not_false_eq_true]) | (first | refine iE ?_ ?_ | refine iD ?_ ?_ | refine iQ ?_ ?_ | refine iV ?_ ?_) <;> intro _ | refine And.intro (by omega) ?_ | fail)
    refine resK_cells (s := 3) (by simp (disch := omega) only [push_cast, ↓reduceIte, zA, zG, zB, zH, zI, zC, zJ, zK, zL, zD, zE, zF, zM, zN, zO, zP, zQ, reduceCtorEq, not_true_eq_false, not_false_eq_true]) (by rw [Try.underlying51]; exact sz51) (Blk.cellsAt (l := [.int .i64 x.tier, .int .i64 T.g, .slice o (T.dl.map Value.string).length k]) B5) ?_
    repeat' (first | (simp (disch := omega) only [push_cast, ↓reduceIte, zA, zG, zB, zH, zI, zC, zJ, zK, zL, zD, zE, zF, zM, zN, zO, zP, zQ, reduceCtorEq, not_true_eq_false, not_false_eq_true]) | (first | refine iE ?_ ?_ | refine iD ?_ ?_ | refine iQ ?_ ?_ | refine iV ?_ ?_) <;> intro _ | refine And.intro (by omega) ?_ | refine drawn_q ?_ | fail)
    exact ⟨⟨_, rfl⟩, hl5⟩
  · have hji : x.proj.toNat < p.pl.length := by omega
    have hok := cub_ok (hp.later l13) hx
    rw [cub_proj hpj hji] at hok ⊢
    have d1 := decide_eq_false hpj
    have h4 := (hp.later l13).pv
    rw [hpv] at h4
    obtain ⟨ta, rfl, fa⟩ := RecS.at cdC_len h4 hji
    generalize p.pl[x.proj.toNat] = T at *
    obtain ⟨o, k, hv⟩ := Sl.slice hok.dv
    repeat' (first | (simp (disch := omega) only [push_cast, ↓reduceIte, zA, zG, zB, zH, zI, zC, zJ, zK, zL, zD, zE, zF, zM, zN, zO, zP, zQ, reduceCtorEq, not_true_eq_false, not_false_eq_true, b2, b3, a1, d1, fa, addr_add_eq, Nat.zero_add]) | (first | refine iE ?_ ?_ | refine iD ?_ ?_ | refine iQ ?_ ?_ | refine iV ?_ ?_) <;> intro _ | refine And.intro (by omega) ?_ | fail)
    refine vStore_blk (l := [.int .i64 0, .int .i64 0, .slice none 0 0]) (xs := cdC T) B3 rfl rfl (by intro u hu; simp only [cdC, List.mem_cons, List.not_mem_nil, or_false] at hu; rcases hu with rfl | rfl | rfl <;> first | rfl | (rw [hv]; rfl)) ?_
    intro w5 B5 c5
    have hl5 : Later w w5 := Chg.later l13 c5 (by intro j hj; rw [List.mem_singleton.1 hj, hkf]; omega)
    repeat' (first | (simp (disch := omega) only [push_cast, ↓reduceIte, zA, zG, zB, zH, zI, zC, zJ, zK, zL, zD, zE, zF, zM, zN, zO, zP, zQ, reduceCtorEq, not_true_eq_false, not_false_eq_true]) | (first | refine iE ?_ ?_ | refine iD ?_ ?_ | refine iQ ?_ ?_ | refine iV ?_ ?_) <;> intro _ | refine And.intro (by omega) ?_ | fail)
    refine resK_cells (s := 3) (by simp (disch := omega) only [push_cast, ↓reduceIte, zA, zG, zB, zH, zI, zC, zJ, zK, zL, zD, zE, zF, zM, zN, zO, zP, zQ, reduceCtorEq, not_true_eq_false, not_false_eq_true]) (by rw [Try.underlying51]; exact sz51) (Blk.cellsAt (l := cdC T) B5) ?_
    repeat' (first | (simp (disch := omega) only [push_cast, ↓reduceIte, zA, zG, zB, zH, zI, zC, zJ, zK, zL, zD, zE, zF, zM, zN, zO, zP, zQ, reduceCtorEq, not_true_eq_false, not_false_eq_true]) | (first | refine iE ?_ ?_ | refine iD ?_ ?_ | refine iQ ?_ ?_ | refine iV ?_ ?_) <;> intro _ | refine And.intro (by omega) ?_ | refine drawn_q ?_ | fail)
    exact ⟨⟨_, rfl⟩, hl5⟩
end Go.Proofs.Ytnofalhkapmcnaa
end
section
set_option linter.unusedSimpArgs false
namespace Go.Vc
open Go.Key
end Go.Vc
namespace Go.Proofs.Ytnofalhkapmcnaa
open Go.Vc Go.Key Go.Bkt
set_option maxRecDepth 100000
def elB (d : List ByteArray) (p : PD) (q : QD) (x : PN) : Bool := (usedL d q).all (fun s => inL s (cub p x).dl) && alB x.fr (cub p x).g && alB x.to (cub p x).g && decide (q.ev % (cub p x).g = 0)
/-- What is asked of a query, for that. -/
structure QIn (d : List ByteArray) (q : QD) : Prop where
  c : q.wh.cnt ≤ 1000000
  b : q.bl.length ≤ 1000
  d : d.length ≤ 1000
  e : q.ev = 0 ∨ Rt q.ev
theorem el1_c (x : ByteArray) (k : Nat) (v : Value) (l : List ByteArray) (w : World) (hk : w.cell? ⟨k, 2, none⟩ = some v) (h : StS w v l) : FnC Try.prog 37 #[.string x, pt k] w fun r w' => r = .bool (!inL x l) ∧ w' = w := by
  refine enter37 _ _ ?_
  unfold B37
  repeat' (first | (simp (disch := omega) only [push_cast, ↓reduceIte, zA, zG, zB, zH, zI, zC, zJ, zK, zL, zD, zE, zF, zM, zN, zO, zP, zQ, reduceCtorEq, not_true_eq_false, not_false_eq_true, hk, addr_add_eq, Nat.zero_add]) | (first | refine iE ?_ ?_ | refine iD ?_ ?_ | refine iQ ?_ ?_ | refine iV ?_ ?_) <;> intro _ | refine And.intro (by omega) ?_ | refine drawn_q ?_ | fail)
  refine (scontains_c v l x w h).mono ?_
  rintro _ w0 ⟨rfl, h0⟩; obtain rfl := h0.symm
  repeat' (first | (simp (disch := omega) only [push_cast, ↓reduceIte, zA, zG, zB, zH, zI, zC, zJ, zK, zL, zD, zE, zF, zM, zN, zO, zP, zQ, reduceCtorEq, not_true_eq_false, not_false_eq_true]) | (first | refine iE ?_ ?_ | refine iD ?_ ?_ | refine iQ ?_ ?_ | refine iV ?_ ?_) <;> intro _ | refine And.intro (by omega) ?_ | refine drawn_q ?_ | fail)
theorem not_any {α : Type} (l : List α) (f : α → Bool) : l.any (fun x => !f x) = !l.all f := by
  induction l with
  | nil => rfl
  | cons a l ih => rw [List.any_cons, List.all_cons, ih]; cases f a <;> simp
theorem evB {ev g : Int} (h : ev = 0 ∨ Rt ev) (hg : Rt g) : (decide (ev = 0) || coB ev g) = decide (ev % g = 0) := by
  rcases h with h | h
  · subst h; simp
  · unfold coB
    by_cases h0 : ev = 0
    · subst h0; simp
    · rw [decide_eq_false h0, Bool.false_or]
      exact decide_eq_decide.2 ⟨fun h => h.2.2, fun h' => ⟨h, hg, h'⟩⟩
set_option maxHeartbeats 2000000 in
theorem eligible_c (dv mv : Value) (d m : List ByteArray) (p : PD) (q : QD) (x : PN) (w : World) (h : ScIs w dv mv d m) (hp : p.Ok w) (hq : q.Ok w) (hx : PnIn p x) (hi : QIn d q) (hf : I6 x.fr) (ht : I6 x.to) : FnC Try.prog 15 #[scV dv mv, .agg (pdC p).toArray, .agg (qdC q).toArray, .agg (pnC x).toArray] w fun v w' => v = .bool (elB d p q x) ∧ Later w w' := by
  have esc : scV dv mv = .agg #[dv, mv] := rfl
  rw [esc]
  refine enter15 _ _ _ _ ?_
  unfold B15
  have eca : (Value.agg (pdC p).toArray).cells = (pdC p).toArray := rfl
  have ecb : (Value.agg #[dv, mv]).cells = #[dv, mv] := rfl
  have ecc : (Value.agg (qdC q).toArray).cells = (qdC q).toArray := rfl
  have ecd : (Value.agg (pnC x).toArray).cells = (pnC x).toArray := rfl
  have s0 : ∃ k0, k0 = w.heap.size := ⟨_, rfl⟩
  obtain ⟨k0, hk0⟩ := s0
  have la := later_alloc w (.cells #[dv, mv] 24)
  have Ba := Blk.new w #[dv, mv] 24
  have sa : (w.alloc (.cells #[dv, mv] 24)).heap.size = k0 + 1 := by rw [World.size_alloc, hk0]
  rw [← hk0] at Ba
  generalize hwa : w.alloc (.cells #[dv, mv] 24) = wa at *
  have lb := later_alloc wa (.cells (pdC p).toArray 28)
  have Bb := Blk.new wa (pdC p).toArray 28
  have sb : (wa.alloc (.cells (pdC p).toArray 28)).heap.size = k0 + 2 := by rw [World.size_alloc, sa]
  rw [sa] at Bb
  generalize hwb : wa.alloc (.cells (pdC p).toArray 28) = wb at *
  have lc := later_alloc wb (.cells (qdC q).toArray 42)
  have Bc := Blk.new wb (qdC q).toArray 42
  have sc : (wb.alloc (.cells (qdC q).toArray 42)).heap.size = k0 + 3 := by rw [World.size_alloc, sb]
  rw [sb] at Bc
  generalize hwc : wb.alloc (.cells (qdC q).toArray 42) = wc at *
  have ld := later_alloc wc (.cells (pnC x).toArray 49)
  have Bd := Blk.new wc (pnC x).toArray 49
  rw [sc] at Bd
  generalize hwd : wc.alloc (.cells (pnC x).toArray 49) = w1 at *
  repeat' (first | (simp (disch := omega) only [push_cast, ↓reduceIte, zA, zG, zB, zH, zI, zC, zJ, zK, zL, zD, zE, zF, zM, zN, zO, zP, zQ, reduceCtorEq, not_true_eq_false, not_false_eq_true, eca, ecb, ecc, ecd, hwa, sa, hwb, sb, hwc, sc, hwd, ← hk0]) | (first | refine iE ?_ ?_ | refine iD ?_ ?_ | refine iQ ?_ ?_ | refine iV ?_ ?_) <;> intro _ | refine And.intro (by omega) ?_ | fail)
  have l01 : Later w w1 := ((la.trans lb).trans lc).trans ld
  have FF : ∀ w', Later w1 w' → cellsAt w' ⟨k0, 0, none⟩ 2 = some [dv, mv] ∧ cellsAt w' ⟨k0 + 1, 0, none⟩ 3 = some (pdC p) ∧ cellsAt w' ⟨k0 + 2, 0, none⟩ 12 = some (qdC q) ∧ cellsAt w' ⟨k0 + 3, 0, none⟩ 5 = some (pnC x) ∧ w'.cell? ⟨k0 + 2, 3, none⟩ = some (.int .i64 q.ev) ∧ w'.cell? ⟨k0 + 3, 0, none⟩ = some (.int .i64 x.fr) ∧ w'.cell? ⟨k0 + 3, 1, none⟩ = some (.int .i64 x.to) := by
    intro w' hl
    have z1 := (Ba.chg (Chg.of_later (ks := []) (((lb.trans lc).trans ld).trans hl)) (by simp))
    have z2 := pdLater Bb ((lc.trans ld).trans hl)
    have z3 := qdLater Bc (ld.trans hl)
    have z4 := Bd.chg (Chg.of_later (ks := []) hl) (by simp)
    exact ⟨Blk.cellsAt (l := [dv, mv]) z1, Blk.cellsAt (l := pdC p) z2, Blk.cellsAt (l := qdC q) z3, Blk.cellsAt (l := pnC x) z4, z3.cell 3, z4.cell 0, z4.cell 1⟩
  have hk1 : w.heap.size ≤ k0 := by omega
  clear hwa hwb hwc hwd sa sb sc la lb lc ld Ba Bb Bc Bd
  obtain ⟨f1, f2, f3, f4, f5, f6, f7⟩ := FF w1 (Later.refl _)
  repeat' (first | (simp (disch := omega) only [push_cast, ↓reduceIte, zA, zG, zB, zH, zI, zC, zJ, zK, zL, zD, zE, zF, zM, zN, zO, zP, zQ, reduceCtorEq, not_true_eq_false, not_false_eq_true, f2, f4]) | (first | refine iE ?_ ?_ | refine iD ?_ ?_ | refine iQ ?_ ?_ | refine iV ?_ ?_) <;> intro _ | refine And.intro (by omega) ?_ | fail)
  refine (scuboid_c p x w1 (hp.later l01) hx).mono ?_
  rintro _ w2 ⟨⟨t0, rfl⟩, l2⟩
  have hok := cub_ok ((hp.later l01).later l2) hx
  unfold elB
  generalize cub p x = C at *
  obtain ⟨o, c, hv⟩ := Sl.slice hok.dv
  repeat' (first | (simp (disch := omega) only [push_cast, ↓reduceIte, zA, zG, zB, zH, zI, zC, zJ, zK, zL, zD, zE, zF, zM, zN, zO, zP, zQ, reduceCtorEq, not_true_eq_false, not_false_eq_true]) | (first | refine iE ?_ ?_ | refine iD ?_ ?_ | refine iQ ?_ ?_ | refine iV ?_ ?_) <;> intro _ | refine And.intro (by omega) ?_ | fail)
  refine vStore_new rfl rfl (by intro u hu; simp only [List.mem_toArray, List.mem_cons, List.not_mem_nil, or_false] at hu; rcases hu with rfl | rfl | rfl <;> first | rfl | (rw [hv]; rfl)) ?_
  have l3 := later_alloc w2 (.cells #[.int .i64 t0, .int .i64 C.g, C.dv] 51)
  have B3 := Blk.new w2 #[.int .i64 t0, .int .i64 C.g, C.dv] 51
  generalize w2.alloc (.cells #[.int .i64 t0, .int .i64 C.g, C.dv] 51) = w3 at *
  generalize w2.heap.size = k3 at *
  have l13 := l2.trans l3
  have l03 := l01.trans l13
  obtain ⟨f1, f2, f3, f4, f5, f6, f7⟩ := FF w3 l13
  repeat' (first | (simp (disch := omega) only [push_cast, ↓reduceIte, zA, zG, zB, zH, zI, zC, zJ, zK, zL, zD, zE, zF, zM, zN, zO, zP, zQ, reduceCtorEq, not_true_eq_false, not_false_eq_true, f1, f3]) | (first | refine iE ?_ ?_ | refine iD ?_ ?_ | refine iQ ?_ ?_ | refine iV ?_ ?_) <;> intro _ | refine And.intro (by omega) ?_ | fail)
  refine (tused_c dv mv d m q w3 (h.later l03) (hq.later l03) hi.c hi.b hi.d).mono ?_
  rintro uv w4 ⟨hu, l4⟩
  repeat' (first | (simp (disch := omega) only [push_cast, ↓reduceIte, zA, zG, zB, zH, zI, zC, zJ, zK, zL, zD, zE, zF, zM, zN, zO, zP, zQ, reduceCtorEq, not_true_eq_false, not_false_eq_true]) | (first | refine iE ?_ ?_ | refine iD ?_ ?_ | refine iQ ?_ ?_ | refine iV ?_ ?_) <;> intro _ | refine And.intro (by omega) ?_ | fail)
  have hpr : ∀ s ∈ usedL d q, Prd Try.prog w4 37 #[pt k3] (.string s) (!inL s C.dl) := by
    intro s _ w' hl
    have b : w'.cell? ⟨k3, 2, none⟩ = some C.dv := hl.cell (l4.cell (B3.cell 2))
    refine (el1_c s k3 C.dv C.dl w' b (((hok.later l3).later l4).later hl).dv).mono ?_
    rintro r w'' ⟨rfl, rfl⟩
    exact ⟨rfl, Later.refl _⟩
  refine (scontainsF_c uv (usedL d q) 37 #[pt k3] (fun s => !inL s C.dl) w4 hu hpr).mono ?_
  rintro _ w5 ⟨rfl, l5⟩
  rw [not_any]
  have l15 := l13.trans (l4.trans l5)
  have l05 := l01.trans l15
  cases hall : (usedL d q).all (fun s => inL s C.dl) with
  | false =>
    repeat' (first | (simp (disch := omega) only [push_cast, ↓reduceIte, zA, zG, zB, zH, zI, zC, zJ, zK, zL, zD, zE, zF, zM, zN, zO, zP, zQ, reduceCtorEq, not_true_eq_false, not_false_eq_true]) | (first | refine iE ?_ ?_ | refine iD ?_ ?_ | refine iQ ?_ ?_ | refine iV ?_ ?_) <;> intro _ | refine And.intro (by omega) ?_ | refine drawn_q ?_ | fail)
    first | exact ⟨(by simp), l05⟩ | exact l05
  | true =>
  obtain ⟨f1, f2, f3, f4, f5, f6, f7⟩ := FF w5 l15
  have g1 : w5.cell? ⟨k3, 1, none⟩ = some (.int .i64 C.g) := (l4.trans l5).cell (B3.cell 1)
  have hgI : I6 C.g := hok.g
  have hqI : I6 q.ev := hq.ev
  repeat' (first | (simp (disch := omega) only [push_cast, ↓reduceIte, zA, zG, zB, zH, zI, zC, zJ, zK, zL, zD, zE, zF, zM, zN, zO, zP, zQ, reduceCtorEq, not_true_eq_false, not_false_eq_true, f6, g1, addr_add_eq, Nat.zero_add]) | (first | refine iE ?_ ?_ | refine iD ?_ ?_ | refine iQ ?_ ?_ | refine iV ?_ ?_) <;> intro _ | refine And.intro (by omega) ?_ | fail)
  refine (baligned_c x.fr C.g w5 hf hgI).mono ?_
  rintro _ w0 ⟨rfl, h0⟩; obtain rfl := h0.symm
  cases ha : alB x.fr C.g with
  | false =>
    repeat' (first | (simp (disch := omega) only [push_cast, ↓reduceIte, zA, zG, zB, zH, zI, zC, zJ, zK, zL, zD, zE, zF, zM, zN, zO, zP, zQ, reduceCtorEq, not_true_eq_false, not_false_eq_true]) | (first | refine iE ?_ ?_ | refine iD ?_ ?_ | refine iQ ?_ ?_ | refine iV ?_ ?_) <;> intro _ | refine And.intro (by omega) ?_ | refine drawn_q ?_ | fail)
    first | exact ⟨(by simp), l05⟩ | exact l05
  | true =>
  repeat' (first | (simp (disch := omega) only [push_cast, ↓reduceIte, zA, zG, zB, zH, zI, zC, zJ, zK, zL, zD, zE, zF, zM, zN, zO, zP, zQ, reduceCtorEq, not_true_eq_false, not_false_eq_true, f7, g1, addr_add_eq, Nat.zero_add]) | (first | refine iE ?_ ?_ | refine iD ?_ ?_ | refine iQ ?_ ?_ | refine iV ?_ ?_) <;> intro _ | refine And.intro (by omega) ?_ | fail)
  refine (baligned_c x.to C.g w5 ht hgI).mono ?_
  rintro _ w0 ⟨rfl, h0⟩; obtain rfl := h0.symm
  cases hb : alB x.to C.g with
  | false =>
    repeat' (first | (simp (disch := omega) only [push_cast, ↓reduceIte, zA, zG, zB, zH, zI, zC, zJ, zK, zL, zD, zE, zF, zM, zN, zO, zP, zQ, reduceCtorEq, not_true_eq_false, not_false_eq_true]) | (first | refine iE ?_ ?_ | refine iD ?_ ?_ | refine iQ ?_ ?_ | refine iV ?_ ?_) <;> intro _ | refine And.intro (by omega) ?_ | refine drawn_q ?_ | fail)
    first | exact ⟨(by simp), l05⟩ | exact l05
  | true =>
  have hR : Rt C.g := by
    unfold alB at ha
    exact (of_decide_eq_true ha).1
  have hE := evB hi.e hR
  by_cases he0 : q.ev = 0
  · have d0 := decide_eq_true he0
    rw [d0, Bool.true_or] at hE
    rw [← hE]
    repeat' (first | (simp (disch := omega) only [push_cast, ↓reduceIte, zA, zG, zB, zH, zI, zC, zJ, zK, zL, zD, zE, zF, zM, zN, zO, zP, zQ, reduceCtorEq, not_true_eq_false, not_false_eq_true, f5, d0, addr_add_eq, Nat.zero_add]) | (first | refine iE ?_ ?_ | refine iD ?_ ?_ | refine iQ ?_ ?_ | refine iV ?_ ?_) <;> intro _ | refine And.intro (by omega) ?_ | refine drawn_q ?_ | fail)
    first | exact ⟨(by simp), l05⟩ | exact l05
  · have d0 := decide_eq_false he0
    rw [d0, Bool.false_or] at hE
    rw [← hE]
    repeat' (first | (simp (disch := omega) only [push_cast, ↓reduceIte, zA, zG, zB, zH, zI, zC, zJ, zK, zL, zD, zE, zF, zM, zN, zO, zP, zQ, reduceCtorEq, not_true_eq_false, not_false_eq_true, f5, d0, g1, addr_add_eq, Nat.zero_add]) | (first | refine iE ?_ ?_ | refine iD ?_ ?_ | refine iQ ?_ ?_ | refine iV ?_ ?_) <;> intro _ | refine And.intro (by omega) ?_ | fail)
    refine (bcoarser_c q.ev C.g w5 hqI hgI).mono ?_
    rintro _ w0 ⟨rfl, h0⟩; obtain rfl := h0.symm
    repeat' (first | (simp (disch := omega) only [push_cast, ↓reduceIte, zA, zG, zB, zH, zI, zC, zJ, zK, zL, zD, zE, zF, zM, zN, zO, zP, zQ, reduceCtorEq, not_true_eq_false, not_false_eq_true]) | (first | refine iE ?_ ?_ | refine iD ?_ ?_ | refine iQ ?_ ?_ | refine iV ?_ ?_) <;> intro _ | refine And.intro (by omega) ?_ | refine drawn_q ?_ | fail)
    first | exact ⟨(by simp), l05⟩ | exact l05
end Go.Proofs.Ytnofalhkapmcnaa
end
