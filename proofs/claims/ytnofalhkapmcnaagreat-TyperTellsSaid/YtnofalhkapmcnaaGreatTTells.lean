/- 'TyperTells': whether a query is typed, which dimensions it uses, and a group's time are as the document says. -/
import Derived.Test.YtnofalhkapmcnaaGreatRows
import Derived.Test.YtnofalhkapmcnaaGreatPartJ
set_option linter.all false
open Nat renaming reduceEqDiff → zA, reducePow → zB, reduceMul → zC, reduceAdd → zD, reduceSub → zE, reduceLeDiff → zF
open Int renaming reduceToNat → zG, reducePow → zH, reduceNeg → zI, reduceMul → zJ, reduceAdd → zK, reduceSub → zL, reduceLT → zM, reduceLE → zN, reduceEq → zO, reduceMod → zP, reduceDiv → zQ
set_option linter.unusedSimpArgs false
namespace Go.Proofs.YtnofalhkapmcnaaGreat.typerTells
open Go.Vc Go.Key Go.Bkt Go.RowKit Go.ChangeShapes
set_option maxRecDepth 100000
theorem dbucket_c (q : QD) (t : Int) (w : World) (hq : q.Ok w) (ht : 0 ≤ t ∧ t ≤ 1099511627776) (he : q.ev = 0 ∨ Rt q.ev) : FnC Tryz.prog 22 #[.agg (qdC q).toArray, .int .i64 t] w fun v w' => v = .int .i64 (bktN q t) ∧ Later w w' := by
  refine enter22 _ _ ?_
  unfold B22
  have eca : (Value.agg (qdC q).toArray).cells = (qdC q).toArray := rfl
  have l1 := later_alloc w (.cells (qdC q).toArray 32)
  have B1 := Blk.new w (qdC q).toArray 32
  repeat' (first | (simp (disch := omega) only [push_cast, ↓reduceIte, zA, zG, zB, zH, zI, zC, zJ, zK, zL, zD, zE, zF, zM, zN, zO, zP, zQ, reduceCtorEq, not_true_eq_false, not_false_eq_true, eca]) | (first | refine iE ?_ ?_ | refine iD ?_ ?_ | refine iQ ?_ ?_ | refine iV ?_ ?_) <;> intro _ | refine And.intro (by omega) ?_ | refine drawn_q ?_ | fail)
  generalize w.alloc (.cells (qdC q).toArray 32) = w1 at *
  generalize w.heap.size = kf at *
  obtain ⟨_, a1, _, a3, _⟩ := qdAt B1
  unfold bktN
  by_cases hz : q.ev = 0
  · have dz : decide (q.ev = 0) = true := decide_eq_true hz
    rw [if_pos hz]
    repeat' (first | (simp (disch := omega) only [push_cast, ↓reduceIte, zA, zG, zB, zH, zI, zC, zJ, zK, zL, zD, zE, zF, zM, zN, zO, zP, zQ, reduceCtorEq, not_true_eq_false, not_false_eq_true, a1, a3, dz, addr_add_eq, Nat.zero_add]) | (first | refine iE ?_ ?_ | refine iD ?_ ?_ | refine iQ ?_ ?_ | refine iV ?_ ?_) <;> intro _ | refine And.intro (by omega) ?_ | refine drawn_q ?_ | fail)
    first | exact ⟨rfl, l1⟩ | exact l1
  · have dz : decide (q.ev = 0) = false := decide_eq_false hz
    have hR : Rt q.ev := he.resolve_left hz
    rw [if_neg hz]
    have hF : Ft t := by unfold Ft; omega
    have e1 : (flrR t q.ev).1 = flr t q.ev := by unfold flrR; rw [if_pos ⟨hR, hF⟩]
    rw [e1]
    obtain ⟨m1, m2, m3, m4⟩ := tm t q.ev (by unfold Rt at hR; omega)
    have hem := em t q.ev (by unfold Rt at hR; omega)
    have hq0 : 0 ≤ t.tdiv q.ev := Int.tdiv_nonneg (by omega) (by unfold Rt at hR; omega)
    have hqt : t.tdiv q.ev ≤ t := by rw [Int.tdiv_eq_ediv_of_nonneg ht.1]; exact Int.ediv_le_self _ ht.1
    have hx : t.tdiv q.ev * q.ev = flr t q.ev := by
      unfold flr
      rw [m4, m3]
      have : 0 ≤ t.tmod q.ev := Int.tmod_nonneg _ ht.1
      rw [if_neg (by omega)]
    have hfl : 0 ≤ flr t q.ev ∧ flr t q.ev ≤ t := by
      have := flr_le (t := t) (g := q.ev) (by unfold Rt at hR; omega)
      refine ⟨?_, this.1⟩
      rw [← hx]; exact Int.mul_nonneg hq0 (by unfold Rt at hR; omega)
    have w1' : IntKind.i64.wrap (t.tdiv q.ev) = t.tdiv q.ev := by generalize t.tdiv q.ev = x at *; simp (disch := omega) only [push_cast, ↓reduceIte, zA, zG, zB, zH, zI, zC, zJ, zK, zL, zD, zE, zF, zM, zN, zO, zP, zQ, reduceCtorEq, not_true_eq_false, not_false_eq_true]
    have w2' : IntKind.i64.wrap (flr t q.ev) = flr t q.ev := by generalize flr t q.ev = x at *; simp (disch := omega) only [push_cast, ↓reduceIte, zA, zG, zB, zH, zI, zC, zJ, zK, zL, zD, zE, zF, zM, zN, zO, zP, zQ, reduceCtorEq, not_true_eq_false, not_false_eq_true]
    have hne : ¬ q.ev = 0 := hz
    have e9 : t.tdiv q.ev = t / q.ev := Int.tdiv_eq_ediv_of_nonneg ht.1
    rw [e9] at hx w1'
    repeat' (first | (simp (disch := omega) only [push_cast, ↓reduceIte, zA, zG, zB, zH, zI, zC, zJ, zK, zL, zD, zE, zF, zM, zN, zO, zP, zQ, reduceCtorEq, not_true_eq_false, not_false_eq_true, a1, a3, dz, hne, w1', hx, w2', addr_add_eq, Nat.zero_add]) | (first | refine iE ?_ ?_ | refine iD ?_ ?_ | refine iQ ?_ ?_ | refine iV ?_ ?_) <;> intro _ | refine And.intro (by omega) ?_ | refine drawn_q ?_ | fail)
    intro w2 l2
    first | exact l1.trans l2 | exact ⟨rfl, l1.trans l2⟩
set_option maxHeartbeats 1000000 in
theorem law_c (dv mv : Value) (d m : List ByteArray) (q : QD) (t : Int) (w : World) (h : ScIs w dv mv d m) (hq : q.Ok w) (ht : I64 t) : FnC Tryz.prog 4 #[scV dv mv, .agg (qdC q).toArray, .int .i64 t] w fun v w' => v = .bool true ∧ Later w w' := by
  have esc : scV dv mv = .agg #[dv, mv] := rfl
  rw [esc]
  refine enter4 _ _ _ ?_
  unfold B4
  obtain ⟨mo, mc, hmv⟩ := Sl.slice h.mS
  rw [List.length_map] at hmv
  have eca : (Value.agg (qdC q).toArray).cells = (qdC q).toArray := rfl
  have ecb : (Value.agg #[dv, mv]).cells = #[dv, mv] := rfl
  obtain ⟨l1, s1, F⟩ := box2 w dv mv 24
  have B2 := Blk.new (w.alloc (.cells #[dv, mv] 24)) (qdC q).toArray 32
  have l2 := later_alloc (w.alloc (.cells #[dv, mv] 24)) (.cells (qdC q).toArray 32)
  rw [s1] at B2
  repeat' (first | (simp (disch := omega) only [push_cast, ↓reduceIte, zA, zG, zB, zH, zI, zC, zJ, zK, zL, zD, zE, zF, zM, zN, zO, zP, zQ, reduceCtorEq, not_true_eq_false, not_false_eq_true, eca, ecb, s1]) | (first | refine iE ?_ ?_ | refine iD ?_ ?_ | refine iQ ?_ ?_ | refine iV ?_ ?_) <;> intro _ | refine And.intro (by omega) ?_ | fail)
  have l12 := l1.trans l2
  have FF : ∀ w', Later ((w.alloc (.cells #[dv, mv] 24)).alloc (.cells (qdC q).toArray 32)) w' → cellsAt w' ⟨w.heap.size, 0, none⟩ 2 = some [dv, mv] ∧ w'.cell? ⟨w.heap.size, 1, none⟩ = some mv := fun w' hl => ⟨(F w' (l2.trans hl)).2.2, (F w' (l2.trans hl)).2.1⟩
  clear F
  generalize (w.alloc (.cells #[dv, mv] 24)).alloc (.cells (qdC q).toArray 32) = w1 at *
  generalize hkf : w.heap.size = kf at *
  have h1 := h.later l12
  have q1 := hq.later l12
  have QQ : ∀ w', Later w1 w' → cellsAt w' ⟨kf + 1, 0, none⟩ 12 = some (qdC q) := fun w' hl => Blk.cellsAt (l := qdC q) (qdLater B2 hl)
  have c1 := QQ w1 (Later.refl _)
  have f1 := (FF w1 (Later.refl _)).1
  repeat' (first | (simp (disch := omega) only [push_cast, ↓reduceIte, zA, zG, zB, zH, zI, zC, zJ, zK, zL, zD, zE, zF, zM, zN, zO, zP, zQ, reduceCtorEq, not_true_eq_false, not_false_eq_true, c1, f1]) | (first | refine iE ?_ ?_ | refine iD ?_ ?_ | refine iQ ?_ ?_ | refine iV ?_ ?_) <;> intro _ | refine And.intro (by omega) ?_ | refine drawn_q ?_ | fail)
  refine (fits23_c dv mv d m q w1 h1 q1).mono ?_
  rintro _ w2 ⟨rfl, l3⟩
  cases hf : f23 d m q with
  | false =>
    repeat' (first | (simp (disch := omega) only [push_cast, ↓reduceIte, zA, zG, zB, zH, zI, zC, zJ, zK, zL, zD, zE, zF, zM, zN, zO, zP, zQ, reduceCtorEq, not_true_eq_false, not_false_eq_true]) | (first | refine iE ?_ ?_ | refine iD ?_ ?_ | refine iQ ?_ ?_ | refine iV ?_ ?_) <;> intro _ | refine And.intro (by omega) ?_ | refine drawn_q ?_ | fail)
    refine (alive23_c w2).mono ?_
    rintro _ w3 ⟨rfl, l4⟩
    repeat' (first | (simp (disch := omega) only [push_cast, ↓reduceIte, zA, zG, zB, zH, zI, zC, zJ, zK, zL, zD, zE, zF, zM, zN, zO, zP, zQ, reduceCtorEq, not_true_eq_false, not_false_eq_true]) | (first | refine iE ?_ ?_ | refine iD ?_ ?_ | refine iQ ?_ ?_ | refine iV ?_ ?_) <;> intro _ | refine And.intro (by omega) ?_ | refine drawn_q ?_ | fail)
    first | exact ⟨rfl, (l12.trans (l3.trans l4))⟩ | exact (l12.trans (l3.trans l4))
  | true =>
  obtain ⟨hsc, htl, hhl, hbl, hcn, hdp⟩ := f23_ft hf
  have c2 := QQ w2 l3
  have f2 := (FF w2 l3).1
  repeat' (first | (simp (disch := omega) only [push_cast, ↓reduceIte, zA, zG, zB, zH, zI, zC, zJ, zK, zL, zD, zE, zF, zM, zN, zO, zP, zQ, reduceCtorEq, not_true_eq_false, not_false_eq_true, c2, f2]) | (first | refine iE ?_ ?_ | refine iD ?_ ?_ | refine iQ ?_ ?_ | refine iV ?_ ?_) <;> intro _ | refine And.intro (by omega) ?_ | refine drawn_q ?_ | fail)
  refine (tcheck_c dv mv d m q w2 (h1.later l3) (q1.later l3) (by omega) (by omega) (by omega) (by omega)).mono ?_
  rintro _ w3 ⟨rfl, l4⟩
  have l34 := l3.trans l4
  have c3 := QQ w3 l34
  have f3 := (FF w3 l34).1
  repeat' (first | (simp (disch := omega) only [push_cast, ↓reduceIte, zA, zG, zB, zH, zI, zC, zJ, zK, zL, zD, zE, zF, zM, zN, zO, zP, zQ, reduceCtorEq, not_true_eq_false, not_false_eq_true, c3, f3]) | (first | refine iE ?_ ?_ | refine iD ?_ ?_ | refine iQ ?_ ?_ | refine iV ?_ ?_) <;> intro _ | refine And.intro (by omega) ?_ | refine drawn_q ?_ | fail)
  refine (check_c dv mv d m q w3 (h1.later l34) (q1.later l34) (by omega) (by omega)).mono ?_
  rintro _ w4 ⟨rfl, l5⟩
  have l35 := l34.trans l5
  have l05 := l12.trans l35
  have fin : ∀ w', Later w4 w' → cellsAt w' ⟨kf, 0, none⟩ 2 = some [dv, mv] ∧ cellsAt w' ⟨kf + 1, 0, none⟩ 12 = some (qdC q) := fun w' hl => ⟨(FF w' (l35.trans hl)).1, QQ w' (l35.trans hl)⟩
  have bad : ∀ w', Later w4 w' → ScIs w' dv mv d m ∧ q.Ok w' := fun w' hl => ⟨h1.later (l35.trans hl), q1.later (l35.trans hl)⟩
  by_cases hck : ckQ d m q = 0
  case neg =>
    have dk : decide (ckQ d m q = 0) = false := decide_eq_false hck
    have dk2 : decide (¬ ckQ d m q = 0) = true := decide_eq_true hck
    repeat' (first | (simp (disch := omega) only [push_cast, ↓reduceIte, zA, zG, zB, zH, zI, zC, zJ, zK, zL, zD, zE, zF, zM, zN, zO, zP, zQ, reduceCtorEq, not_true_eq_false, not_false_eq_true, dk, dk2, decide_true]) | (first | refine iE ?_ ?_ | refine iD ?_ ?_ | refine iQ ?_ ?_ | refine iV ?_ ?_) <;> intro _ | refine And.intro (by omega) ?_ | refine drawn_q ?_ | fail)
    refine (alive23_c w4).mono ?_
    rintro _ w5 ⟨rfl, l6⟩
    obtain ⟨f5, c5⟩ := fin w5 l6
    repeat' (first | (simp (disch := omega) only [push_cast, ↓reduceIte, zA, zG, zB, zH, zI, zC, zJ, zK, zL, zD, zE, zF, zM, zN, zO, zP, zQ, reduceCtorEq, not_true_eq_false, not_false_eq_true, f5, c5]) | (first | refine iE ?_ ?_ | refine iD ?_ ?_ | refine iQ ?_ ?_ | refine iV ?_ ?_) <;> intro _ | refine And.intro (by omega) ?_ | refine drawn_q ?_ | fail)
    refine (check_c dv mv d m q w5 (bad w5 l6).1 (bad w5 l6).2 (by omega) (by omega)).mono ?_
    rintro _ w6 ⟨rfl, l7⟩
    repeat' (first | (simp (disch := omega) only [push_cast, ↓reduceIte, zA, zG, zB, zH, zI, zC, zJ, zK, zL, zD, zE, zF, zM, zN, zO, zP, zQ, reduceCtorEq, not_true_eq_false, not_false_eq_true, decide_true]) | (first | refine iE ?_ ?_ | refine iD ?_ ?_ | refine iQ ?_ ?_ | refine iV ?_ ?_) <;> intro _ | refine And.intro (by omega) ?_ | refine drawn_q ?_ | fail)
    first | exact ⟨rfl, (l05.trans (l6.trans l7))⟩ | exact (l05.trans (l6.trans l7))
  obtain ⟨hsh, hns, htp⟩ := ck0 hck
  by_cases t0 : t < 0
  case pos =>
    have dt : decide (t < 0) = true := decide_eq_true t0
    rw [hck]
    repeat' (first | (simp (disch := omega) only [push_cast, ↓reduceIte, zA, zG, zB, zH, zI, zC, zJ, zK, zL, zD, zE, zF, zM, zN, zO, zP, zQ, reduceCtorEq, not_true_eq_false, not_false_eq_true, dt, decide_true]) | (first | refine iE ?_ ?_ | refine iD ?_ ?_ | refine iQ ?_ ?_ | refine iV ?_ ?_) <;> intro _ | refine And.intro (by omega) ?_ | refine drawn_q ?_ | fail)
    refine (alive23_c w4).mono ?_
    rintro _ w5 ⟨rfl, l6⟩
    obtain ⟨f5, c5⟩ := fin w5 l6
    repeat' (first | (simp (disch := omega) only [push_cast, ↓reduceIte, zA, zG, zB, zH, zI, zC, zJ, zK, zL, zD, zE, zF, zM, zN, zO, zP, zQ, reduceCtorEq, not_true_eq_false, not_false_eq_true, f5, c5]) | (first | refine iE ?_ ?_ | refine iD ?_ ?_ | refine iQ ?_ ?_ | refine iV ?_ ?_) <;> intro _ | refine And.intro (by omega) ?_ | refine drawn_q ?_ | fail)
    refine (check_c dv mv d m q w5 (bad w5 l6).1 (bad w5 l6).2 (by omega) (by omega)).mono ?_
    rintro _ w6 ⟨rfl, l7⟩
    rw [hck]
    repeat' (first | (simp (disch := omega) only [push_cast, ↓reduceIte, zA, zG, zB, zH, zI, zC, zJ, zK, zL, zD, zE, zF, zM, zN, zO, zP, zQ, reduceCtorEq, not_true_eq_false, not_false_eq_true, decide_true]) | (first | refine iE ?_ ?_ | refine iD ?_ ?_ | refine iQ ?_ ?_ | refine iV ?_ ?_) <;> intro _ | refine And.intro (by omega) ?_ | refine drawn_q ?_ | fail)
    first | exact ⟨rfl, (l05.trans (l6.trans l7))⟩ | exact (l05.trans (l6.trans l7))
  have dt : decide (t < 0) = false := decide_eq_false t0
  by_cases t1 : 1099511627776 < t
  case pos =>
    have dt1 : decide (1099511627776 < t) = true := decide_eq_true t1
    rw [hck]
    repeat' (first | (simp (disch := omega) only [push_cast, ↓reduceIte, zA, zG, zB, zH, zI, zC, zJ, zK, zL, zD, zE, zF, zM, zN, zO, zP, zQ, reduceCtorEq, not_true_eq_false, not_false_eq_true, dt, dt1, decide_true]) | (first | refine iE ?_ ?_ | refine iD ?_ ?_ | refine iQ ?_ ?_ | refine iV ?_ ?_) <;> intro _ | refine And.intro (by omega) ?_ | refine drawn_q ?_ | fail)
    refine (alive23_c w4).mono ?_
    rintro _ w5 ⟨rfl, l6⟩
    obtain ⟨f5, c5⟩ := fin w5 l6
    repeat' (first | (simp (disch := omega) only [push_cast, ↓reduceIte, zA, zG, zB, zH, zI, zC, zJ, zK, zL, zD, zE, zF, zM, zN, zO, zP, zQ, reduceCtorEq, not_true_eq_false, not_false_eq_true, f5, c5]) | (first | refine iE ?_ ?_ | refine iD ?_ ?_ | refine iQ ?_ ?_ | refine iV ?_ ?_) <;> intro _ | refine And.intro (by omega) ?_ | refine drawn_q ?_ | fail)
    refine (check_c dv mv d m q w5 (bad w5 l6).1 (bad w5 l6).2 (by omega) (by omega)).mono ?_
    rintro _ w6 ⟨rfl, l7⟩
    rw [hck]
    repeat' (first | (simp (disch := omega) only [push_cast, ↓reduceIte, zA, zG, zB, zH, zI, zC, zJ, zK, zL, zD, zE, zF, zM, zN, zO, zP, zQ, reduceCtorEq, not_true_eq_false, not_false_eq_true, decide_true]) | (first | refine iE ?_ ?_ | refine iD ?_ ?_ | refine iQ ?_ ?_ | refine iV ?_ ?_) <;> intro _ | refine And.intro (by omega) ?_ | refine drawn_q ?_ | fail)
    first | exact ⟨rfl, (l05.trans (l6.trans l7))⟩ | exact (l05.trans (l6.trans l7))
  have dt1 : decide (1099511627776 < t) = false := decide_eq_false t1
  have he : q.ev = 0 ∨ Rt q.ev := by
    unfold tpOk at htp
    simp only [Bool.and_eq_true] at htp
    have := htp.1.2
    unfold evOk grOk at this
    simp only [Bool.or_eq_true, Bool.and_eq_true, decide_eq_true_eq] at this
    exact this
  have hd1000 : d.length ≤ 1000 := by have := hsc.2.2.2.1; omega
  rw [hck]
  repeat' (first | (simp (disch := omega) only [push_cast, ↓reduceIte, zA, zG, zB, zH, zI, zC, zJ, zK, zL, zD, zE, zF, zM, zN, zO, zP, zQ, reduceCtorEq, not_true_eq_false, not_false_eq_true, dt, dt1, decide_true]) | (first | refine iE ?_ ?_ | refine iD ?_ ?_ | refine iQ ?_ ?_ | refine iV ?_ ?_) <;> intro _ | refine And.intro (by omega) ?_ | fail)
  obtain ⟨f5, c5⟩ := fin w4 (Later.refl _)
  refine drawn_k 16 ?_
  repeat' (first | (simp (disch := omega) only [push_cast, ↓reduceIte, zA, zG, zB, zH, zI, zC, zJ, zK, zL, zD, zE, zF, zM, zN, zO, zP, zQ, reduceCtorEq, not_true_eq_false, not_false_eq_true, f5, c5]) | (first | refine iE ?_ ?_ | refine iD ?_ ?_ | refine iQ ?_ ?_ | refine iV ?_ ?_) <;> intro _ | refine And.intro (by omega) ?_ | fail)
  refine NFn.fix hb15 (v := .bool true) (fun w' hl => alive23_c w') ?_
  repeat' (first | (simp (disch := omega) only [push_cast, ↓reduceIte, zA, zG, zB, zH, zI, zC, zJ, zK, zL, zD, zE, zF, zM, zN, zO, zP, zQ, reduceCtorEq, not_true_eq_false, not_false_eq_true, f5, c5]) | (first | refine iE ?_ ?_ | refine iD ?_ ?_ | refine iQ ?_ ?_ | refine iV ?_ ?_) <;> intro _ | refine And.intro (by omega) ?_ | fail)
  refine NFn.of hb19 (fun v w' => StS w' v (usedL d q)) (fun _ _ _ _ hl h => Sl.later h hl) (fun w' hl => tused_c dv mv d m q w' (bad w' hl).1 (bad w' hl).2 (by omega) (by omega) hd1000) ?_
  repeat' (first | (simp (disch := omega) only [push_cast, ↓reduceIte, zA, zG, zB, zH, zI, zC, zJ, zK, zL, zD, zE, zF, zM, zN, zO, zP, zQ, reduceCtorEq, not_true_eq_false, not_false_eq_true, f5, c5]) | (first | refine iE ?_ ?_ | refine iD ?_ ?_ | refine iQ ?_ ?_ | refine iV ?_ ?_) <;> intro _ | refine And.intro (by omega) ?_ | fail)
  refine NFn.of hb20 (fun v w' => StS w' v (usedL d q)) (fun _ _ _ _ hl h => Sl.later h hl) (fun w' hl => (used_c dv mv d m q w' (bad w' hl).1 (bad w' hl).2 (by omega) (by omega) hd1000).mono fun v w'' hv => ⟨OwnS.st hv.1, hv.2⟩) ?_
  repeat' (first | (simp (disch := omega) only [push_cast, ↓reduceIte, zA, zG, zB, zH, zI, zC, zJ, zK, zL, zD, zE, zF, zM, zN, zO, zP, zQ, reduceCtorEq, not_true_eq_false, not_false_eq_true, f5, c5]) | (first | refine iE ?_ ?_ | refine iD ?_ ?_ | refine iQ ?_ ?_ | refine iV ?_ ?_) <;> intro _ | refine And.intro (by omega) ?_ | fail)
  refine nR_callv hb18 (.bool true) (fun σ' w' hl hp => ?_) ?_
  · obtain ⟨hp1, hp2, _⟩ := hp
    have h1 : StS w' (σ' 47) (usedL d q) := hp1
    have h2 : StS w' (σ' 50) (usedL d q) := hp2
    repeat' (first | (simp (disch := omega) only [push_cast, ↓reduceIte, zA, zG, zB, zH, zI, zC, zJ, zK, zL, zD, zE, zF, zM, zN, zO, zP, zQ, reduceCtorEq, not_true_eq_false, not_false_eq_true]) | (first | refine iE ?_ ?_ | refine iD ?_ ?_ | refine iQ ?_ ?_ | refine iV ?_ ?_) <;> intro _ | refine And.intro (by omega) ?_ | fail)
    refine (texts_c (σ' 47) (σ' 50) (usedL d q) (usedL d q) w' h1 h2).mono ?_
    rintro v w'' ⟨rfl, hl2⟩
    exact ⟨by rw [decide_eq_true rfl], hl2⟩
  repeat' (first | (simp (disch := omega) only [push_cast, ↓reduceIte, zA, zG, zB, zH, zI, zC, zJ, zK, zL, zD, zE, zF, zM, zN, zO, zP, zQ, reduceCtorEq, not_true_eq_false, not_false_eq_true, f5, c5]) | (first | refine iE ?_ ?_ | refine iD ?_ ?_ | refine iQ ?_ ?_ | refine iV ?_ ?_) <;> intro _ | refine And.intro (by omega) ?_ | fail)
  refine NFn.fix hb21 (v := .int .i64 (bktN q t)) (fun w' hl => tbucket_c q t w' (bad w' hl).2 ht) ?_
  repeat' (first | (simp (disch := omega) only [push_cast, ↓reduceIte, zA, zG, zB, zH, zI, zC, zJ, zK, zL, zD, zE, zF, zM, zN, zO, zP, zQ, reduceCtorEq, not_true_eq_false, not_false_eq_true, f5, c5]) | (first | refine iE ?_ ?_ | refine iD ?_ ?_ | refine iQ ?_ ?_ | refine iV ?_ ?_) <;> intro _ | refine And.intro (by omega) ?_ | fail)
  rintro w5 l6 x1 _ x2 _
  refine (dbucket_c q t w5 (bad w5 l6).2 (by omega) he).mono ?_
  rintro _ w6 ⟨rfl, l7⟩
  repeat' (first | (simp (disch := omega) only [push_cast, ↓reduceIte, zA, zG, zB, zH, zI, zC, zJ, zK, zL, zD, zE, zF, zM, zN, zO, zP, zQ, reduceCtorEq, not_true_eq_false, not_false_eq_true, decide_true]) | (first | refine iE ?_ ?_ | refine iD ?_ ?_ | refine iQ ?_ ?_ | refine iV ?_ ?_) <;> intro _ | refine And.intro (by omega) ?_ | refine drawn_q ?_ | fail)
  first | exact ⟨rfl, (l05.trans (l6.trans l7))⟩ | exact (l05.trans (l6.trans l7))
theorem own : ownKnob Tryz.prog.godebug = none := by kernel_rfl
theorem lifted (os : Os) (started : os.Started) (H : Type) (enc : TypeId × Value → H) :
    ReturnsInHanded {} Tryz.checked os 4 .any (Rows.typerTellsSpec.pre6 enc Tryz.prog Tryz.f4 Rows.typerTellsRow.domain false) (Rows.typerTellsSpec.post enc Tryz.prog Tryz.f4 false true false false) := by
  refine lifted_laterZ (C := Tryz.checked) own started (by kernel_rfl) Tryz.func4 hb4
    (ChangeSpec.witness6 (enc := enc) (C := Tryz.checked) false ⟨#[], #[.agg #[.slice none 0 0, .slice none 0 0], .agg #[.slice none 0 0, .int .i64 0, .int .i64 0, .int .i64 0, .slice none 0 0, .int .i64 0, .string ⟨#[]⟩, .string ⟨#[]⟩, .slice none 0 0, .slice none 0 0, .int .i64 0, .int .i64 0], .int .i64 0], []⟩ 20 (by kernel_rfl) (by kernel_rfl) (by kernel_rfl) (by kernel_rfl))
    (by kernel_rfl) (list_all (by kernel_rfl)) (by kernel_rfl) Tryz.underlying4 rfl ?_ ?_
  · intro ds h
    have h : ds.length = 3 := h
    match ds, h with
    | [_, _, _], _ => rfl
  · intro W base args ds p hval0 hz0 hA0
    have hval : ∀ (j : Nat) t v, Tryz.f4.params[j]? = some t → args[j]? = some v → Value.okWide Tryz.prog W .any base t v := hval0
    have hz : ∀ (j : Nat) t d, Tryz.f4.params.toList[j]? = some t → ds[j]? = some d → Sz Tryz.prog t d := hz0
    have hA : DataW.TrodAll enc Tryz.prog W 0 (fun _ => true) true Tryz.f4.params.toList args.toList ds p := hA0
    rw [Tryz.params4] at hA hval hz
    obtain ⟨v0, vs0, d0, ds0, p0, q0, hargs, rfl, rfl, h0, r0⟩ := trodAll_cons hA
    obtain ⟨v1, vs1, d1, ds1, p1, q1, rfl, rfl, rfl, h1, r1⟩ := trodAll_cons r0
    obtain ⟨v2, vs2, d2, ds2, p2, q2, rfl, rfl, rfl, h2, r2⟩ := trodAll_cons r1
    obtain ⟨rfl, rfl, rfl⟩ := trodAll_nil r2
    obtain rfl : args = #[v0, v1, v2] := by cases args; simp_all
    obtain ⟨cs0, e0, w0⟩ := openZ_agg ⟨_, Tryz.underlying24⟩ (fun _ => z_schema) (hval 0 24 v0 rfl rfl) h0 (hz 0 _ _ rfl rfl)
    obtain ⟨cs1, e1, w1⟩ := openZ_agg ⟨_, Tryz.underlying32⟩ (fun _ => z_query) (hval 1 32 v1 rfl rfl) h1 (hz 1 _ _ rfl rfl)
    obtain ⟨a2, rfl, rfl, rfl, w2⟩ := open_int Tryz.underlying3 (hval 2 3 v2 rfl rfl) h2
    obtain ⟨dv0, mv0, dl0, ml0, rfl, ok0⟩ := w0
    subst e0
    obtain ⟨m1, rfl, ok1⟩ := w1
    subst e1
    exact law_c dv0 mv0 dl0 ml0 m1 a2 W (ScIs.of_ok ok0) ok1 (i64_of_wf w2)
theorem over : Rows.typerTellsRow.holds Tryz.pinned (OpenSpec.ofChange Rows.typerTellsSpec) :=
  OpenClaim.holds_of_wide 4 Tryz.f4 rfl rfl rfl rfl rfl rfl rfl ⟨rfl, rfl, rfl, rfl, rfl⟩ rfl rfl rfl rfl rfl (by kernel_rfl) Tryz.func4 (by kernel_rfl)
    (of_decide_eq_true (by kernel_rfl)) (by unfold Func.isWrapper; first | (rw [if_pos (by decide +kernel)]; kernel_rfl) | (rw [if_neg (by decide +kernel)]; exact ⟨rfl, rfl⟩))
    (fun os started H enc _ => lifted os started H enc)
/-- The statement. -/
theorem proved : Rows.TyperTellsSaid :=
  over
end Go.Proofs.YtnofalhkapmcnaaGreat.typerTells
