/- GroupParts: the groups of right rows that are dealt out by a number's bits, folded each part for itself and finished together, are the groups of all, if nothing is too much; no conditions beyond the statement's own. -/
import Derived.Test.YtnofalhkapmcnaaRows
import Derived.Test.YtnofalhkapmcnaaPartM
set_option linter.all false
open Nat renaming reduceEqDiff → zA, reducePow → zB, reduceMul → zC, reduceAdd → zD, reduceSub → zE, reduceLeDiff → zF
open Int renaming reduceToNat → zG, reducePow → zH, reduceNeg → zI, reduceMul → zJ, reduceAdd → zK, reduceSub → zL, reduceLT → zM, reduceLE → zN, reduceEq → zO, reduceMod → zP, reduceDiv → zQ
set_option linter.unusedSimpArgs false
namespace Go.Proofs.Ytnofalhkapmcnaa.groupParts
open Go.Vc Go.RowKit Go.ChangeShapes Go.Key Go.Cub Go.Fold Go.Stab Go.Proofs.Ytnofalhkapmcnaa
set_option maxRecDepth 100000
set_option maxHeartbeats 4000000 in
theorem law_c (dv mv av : Value) (d m : List ByteArray) (q : QD) (l : List El) (bits : Int) (w : World) (h : ScIs w dv mv d m) (hq : q.Ok w) (hl : RecS elC 4 w av l) (hes : ∀ e ∈ l, RowQ w e) (hbits : -9223372036854775808 ≤ bits ∧ bits ≤ 9223372036854775807) :
    FnC Try.prog 7 #[.agg [dv, mv].toArray, .agg (qdC q ++ [av]).toArray, .int .i64 bits] w fun v w' => v = .bool true ∧ Later w w' := by
  obtain ⟨lo, lc, rfl, gl1, gl2⟩ := hl.slice
  refine enter7 _ _ _ ?_
  unfold B7
  have eca : (Value.agg (qdC q ++ [Value.slice lo l.length lc]).toArray).cells = (qdC q ++ [Value.slice lo l.length lc]).toArray := rfl
  have ecb : (Value.agg [dv, mv].toArray).cells = #[dv, mv] := rfl
  obtain ⟨l1, s1, F1⟩ := box2 w dv mv 24
  have B2 := Blk.new (w.alloc (.cells #[dv, mv] 24)) (qdC q ++ [Value.slice lo l.length lc]).toArray 67
  have l2 := later_alloc (w.alloc (.cells #[dv, mv] 24)) (.cells (qdC q ++ [Value.slice lo l.length lc]).toArray 67)
  rw [s1] at B2
  repeat' (first | (simp (disch := omega) only [push_cast, ↓reduceIte, zA, zG, zB, zH, zI, zC, zJ, zK, zL, zD, zE, zF, zM, zN, zO, zP, zQ, reduceCtorEq, eca, ecb, s1]) | refine iX ?_ ?_ <;> intro _ | refine And.intro (by omega) ?_ | fail)
  have l01 := l1.trans l2
  have FS : ∀ w', Later ((w.alloc (.cells #[dv, mv] 24)).alloc (.cells (qdC q ++ [Value.slice lo l.length lc]).toArray 67)) w' → cellsAt w' ⟨w.heap.size, 0, none⟩ 2 = some [dv, mv] := fun w' hl => (F1 w' (l2.trans hl)).2.2
  clear F1 l1 l2 s1
  generalize (w.alloc (.cells #[dv, mv] 24)).alloc (.cells (qdC q ++ [Value.slice lo l.length lc]).toArray 67) = w1 at *
  generalize hkq : w.heap.size = kf at *
  have BQ : ∀ w', Later w1 w' → Blk w' (kf + 1) (qdC q ++ [Value.slice lo l.length lc]).toArray 67 := fun w' hl => B2.chg (Chg.of_later (ks := []) hl) (by simp)
  have FQ : ∀ w', Later w1 w' → cellsAt w' ⟨kf + 1, 0, none⟩ 12 = some (qdC q) := fun w' hl => by
    refine cellsAt_of 12 _ _ rfl fun i x hx => ?_
    rw [addr_add_eq, Nat.zero_add, (BQ w' hl).cell]
    have hi := (List.getElem?_eq_some_iff.1 hx).1
    have e : (qdC q ++ [Value.slice lo l.length lc]).toArray[i]? = (qdC q ++ [Value.slice lo l.length lc])[i]? := by simp
    rw [e, List.getElem?_append_left hi]; exact hx
  have FL : ∀ w', Later w1 w' → w'.cell? ⟨kf + 1, 12, none⟩ = some (.slice lo l.length lc) := fun w' hl => (BQ w' hl).cell 12
  have fs := FS w1 (Later.refl _)
  have fq := FQ w1 (Later.refl _)
  have fl := FL w1 (Later.refl _)
  repeat' (first | (simp (disch := omega) only [push_cast, ↓reduceIte, zA, zG, zB, zH, zI, zC, zJ, zK, zL, zD, zE, zF, zM, zN, zO, zP, zQ, reduceCtorEq, fs, fq, fl, addr_add_eq, Nat.zero_add]) | refine iX ?_ ?_ <;> intro _ | refine And.intro (by omega) ?_ | refine dq ?_)
  refine (fits25_c dv mv _ d m q l w1 (h.later l01) (hq.later l01) (hl.later l01) (fun e he => ⟨(hes e he).1.later l01, (hes e he).2⟩)).mono ?_
  rintro _ w2 ⟨rfl, l2⟩
  have l02 := l01.trans l2
  cases hF : f25 d m q l with
  | false =>
    repeat' (first | (simp (disch := omega) only [push_cast, ↓reduceIte, zA, zG, zB, zH, zI, zC, zJ, zK, zL, zD, zE, zF, zM, zN, zO, zP, zQ, reduceCtorEq]) | refine iX ?_ ?_ <;> intro _ | refine And.intro (by omega) ?_ | refine dq ?_)
    refine (alive25_c w2).mono ?_
    rintro _ w3 ⟨rfl, l3⟩
    repeat' (first | (simp (disch := omega) only [push_cast, ↓reduceIte, zA, zG, zB, zH, zI, zC, zJ, zK, zL, zD, zE, zF, zM, zN, zO, zP, zQ, reduceCtorEq]) | refine iX ?_ ?_ <;> intro _ | refine And.intro (by omega) ?_ | refine dq ?_)
    first | exact ⟨rfl, (l02.trans l3)⟩ | exact (l02.trans l3)
  | true =>
  unfold f25 at hF
  simp only [Bool.and_eq_true, decide_eq_true_eq] at hF
  obtain ⟨⟨h13, h23⟩, hck⟩ := hF
  obtain ⟨hT, _, _⟩ := ty_of hck
  have hcr := cr_of h13
  have hll := h13.2.2.1
  have hbk := (f23_cnt h23).2
  clear h13 h23 hck fs fq fl
  repeat' (first | (simp (disch := omega) only [push_cast, ↓reduceIte, zA, zG, zB, zH, zI, zC, zJ, zK, zL, zD, zE, zF, zM, zN, zO, zP, zQ, reduceCtorEq]) | refine iX ?_ ?_ <;> intro _ | refine And.intro (by omega) ?_ | refine dq ?_)
  refine vc_loop W7_0 (fun p : Nat × Value × Value => [(8, p.2.1), (9, p.2.2), (10, .int .i64 (p.1 : Int))])
    (fun p w' => p.1 ≤ l.length ∧ Later w2 w' ∧ ∃ la lb, OwnE w' w2.heap.size p.2.1 la ∧ OwnE w' w2.heap.size p.2.2 lb ∧ Apt p.2.1 p.2.2 ∧ (l.take p.1).Perm (la ++ lb)) (fun p => l.length - p.1) (0, .slice none 0 0, .slice none 0 0) (by decide) ?_ ?_ ?_
  · simp (disch := omega) only [push_cast, ↓reduceIte, zA, zG, zB, zH, zI, zC, zJ, zK, zL, zD, zE, zF, zM, zN, zO, zP, zQ, reduceCtorEq]
  · exact ⟨by omega, Later.refl _, [], [], OwnR.nil _ _ _, OwnR.nil _ _ _, Apt.nil _, by simp⟩
  rintro ⟨i, xa, xb⟩ uu w3 ⟨hi, l3, la, lb, hA, hB, hap, hP⟩
  dsimp only at hi hA hB hap hP
  have l13 := l2.trans l3
  have l03 := l01.trans l13
  have hlen : la.length + lb.length = i := by
    have := hP.length_eq
    rw [List.length_take, List.length_append] at this
    omega
  have hmem : ∀ e ∈ la ++ lb, e ∈ l := fun e he => List.mem_of_mem_take (hP.mem_iff.2 he)
  by_cases hlt : i < l.length
  · obtain ⟨ad, rfl, f1⟩ := RecS.at elC_len (hl.later l03) hlt
    have hE := (hes l[i] (List.getElem_mem _)).1
    have htk := take_snoc l i hlt
    generalize l[i] = x at *
    unfold elC at f1
    have fl := FL w3 l13
    obtain ⟨oa, ca, rfl, _⟩ := RecS.slice (OwnR.s hA)
    obtain ⟨ob, cb, rfl, _⟩ := RecS.slice (OwnR.s hB)
    have lw := later_alloc w3 (.cells #[.int .i64 x.t, x.dv, .int .i64 x.n, x.av] 72)
    have Bw := Blk.new w3 #[.int .i64 x.t, x.dv, .int .i64 x.n, x.av] 72
    have hxw := hE.later (l03.trans lw)
    have hm0 : 0 ≤ (i : Int) % 32 ∧ (i : Int) % 32 < 32 := by omega
    generalize hwv : w3.alloc (.cells #[.int .i64 x.t, x.dv, .int .i64 x.n, x.av] 72) = wv at *
    have hA4 := hA.later lw
    have hB4 := hB.later lw
    have l24 := l3.trans lw
    have hx1 : RecS elC 4 wv (.slice (some ⟨w3.heap.size, 0, none⟩) 1 1) [x] := RecS.lit1 (elC_len x) Bw
    repeat' (first | (simp (disch := omega) only [push_cast, ↓reduceIte, zA, zG, zB, zH, zI, zC, zJ, zK, zL, zD, zE, zF, zM, zN, zO, zP, zQ, reduceCtorEq, fl, f1, hwv, addr_add_eq, Nat.zero_add]) | refine iX ?_ ?_ <;> intro _ | refine And.intro (by omega) ?_ | fail)
    · refine vAppend_e (r := [x]) hA4 hx1 (by intro z hz; rw [List.mem_singleton.1 hz]; exact hxw) (by simp only [List.length_cons, List.length_nil]; omega) l24.size ?_
      intro v' w5 ho hg hs
      have l25 := l24.appended hA4 (Nat.le_refl _) hg
      have hB5 : OwnE w5 w2.heap.size (.slice ob lb.length cb) lb := own_apt hB4 hg hap
      have hap5 := Apt.next hap hB4 hs
      have hP5 : (l.take (i + 1)).Perm ((la ++ [x]) ++ lb) := by
        rw [htk]
        refine (hP.append_right [x]).trans ?_
        rw [List.append_assoc, List.append_assoc]
        exact List.perm_append_comm.append_left la
      repeat' (first | (simp (disch := omega) only [push_cast, ↓reduceIte, zA, zG, zB, zH, zI, zC, zJ, zK, zL, zD, zE, zF, zM, zN, zO, zP, zQ, reduceCtorEq]) | refine iX ?_ ?_ <;> intro _ | refine And.intro (by omega) ?_ | refine dq ?_)
      exact ⟨rfl, (i + 1, v', .slice ob lb.length cb), by simp (disch := omega) only [push_cast, ↓reduceIte, zA, zG, zB, zH, zI, zC, zJ, zK, zL, zD, zE, zF, zM, zN, zO, zP, zQ, reduceCtorEq], ⟨by dsimp only; omega, l25, la ++ [x], lb, ho, hB5, hap5, hP5⟩, by dsimp only; omega⟩
    · refine vAppend_e (r := [x]) hB4 hx1 (by intro z hz; rw [List.mem_singleton.1 hz]; exact hxw) (by simp only [List.length_cons, List.length_nil]; omega) l24.size ?_
      intro v' w5 ho hg hs
      have l25 := l24.appended hB4 (Nat.le_refl _) hg
      have hA5 : OwnE w5 w2.heap.size (.slice oa la.length ca) la := own_apt hA4 hg hap.symm
      have hap5 := (Apt.next hap.symm hA4 hs).symm
      have hP5 : (l.take (i + 1)).Perm (la ++ (lb ++ [x])) := by
        rw [htk, ← List.append_assoc]
        exact hP.append_right [x]
      repeat' (first | (simp (disch := omega) only [push_cast, ↓reduceIte, zA, zG, zB, zH, zI, zC, zJ, zK, zL, zD, zE, zF, zM, zN, zO, zP, zQ, reduceCtorEq]) | refine iX ?_ ?_ <;> intro _ | refine And.intro (by omega) ?_ | refine dq ?_)
      exact ⟨rfl, (i + 1, .slice oa la.length ca, v'), by simp (disch := omega) only [push_cast, ↓reduceIte, zA, zG, zB, zH, zI, zC, zJ, zK, zL, zD, zE, zF, zM, zN, zO, zP, zQ, reduceCtorEq], ⟨by dsimp only; omega, l25, la, lb ++ [x], hA5, ho, hap5, hP5⟩, by dsimp only; omega⟩
  have hie : i = l.length := by omega
  subst hie
  rw [List.take_length] at hP
  obtain ⟨oa, ca, rfl, _⟩ := RecS.slice (OwnR.s hA)
  obtain ⟨ob, cb, rfl, _⟩ := RecS.slice (OwnR.s hB)
  have fl := FL w3 l13
  have fs := FS w3 l13
  have fq := FQ w3 l13
  have FE : ∀ w', Later w w' → ∀ e ∈ l, EIs w' e ∧ Cr d.length m.length e := fun w' hl e he => ⟨(hes e he).1.later hl, hcr e he⟩
  have hperm : (grpL d q (l.map El.abs)).Perm (grpL d q (la.map El.abs) ++ grpL d q (lb.map El.abs)) := by
    have := grpL_perm d q (hP.map El.abs)
    rwa [List.map_append, grpL_app] at this
  repeat' (first | (simp (disch := omega) only [push_cast, ↓reduceIte, zA, zG, zB, zH, zI, zC, zJ, zK, zL, zD, zE, zF, zM, zN, zO, zP, zQ, reduceCtorEq, fl, fs, fq, addr_add_eq, Nat.zero_add]) | refine iX ?_ ?_ <;> intro _ | refine And.intro (by omega) ?_ | refine dq ?_)
  refine (grun_c dv mv _ d m q l w3 (h.later l03) (hq.later l03) hT (hl.later l03) (FE w3 l03) (by omega)).mono ?_
  rintro _ w4 ⟨xv, xe, rfl, hx, l4⟩
  have l14 := l13.trans l4
  have l04 := l03.trans l4
  have fs := FS w4 l14
  have fq := FQ w4 l14
  repeat' (first | (simp (disch := omega) only [push_cast, ↓reduceIte, zA, zG, zB, zH, zI, zC, zJ, zK, zL, zD, zE, zF, zM, zN, zO, zP, zQ, reduceCtorEq, fs, fq, addr_add_eq, Nat.zero_add]) | refine iX ?_ ?_ <;> intro _ | refine And.intro (by omega) ?_ | refine dq ?_)
  refine (gfold_c m.length dv mv _ d m q la w4 (h.later l04) (hq.later l04) (RecS.later (OwnR.s hA) l4) (fun e he => FE w4 l04 e (hmem e (List.mem_append_left _ he))) hT.bl hbk (by omega)).mono ?_
  rintro _ w5 ⟨mv', me, rfl, hm, l5⟩
  have l15 := l14.trans l5
  have l05 := l04.trans l5
  have fs := FS w5 l15
  have fq := FQ w5 l15
  repeat' (first | (simp (disch := omega) only [push_cast, ↓reduceIte, zA, zG, zB, zH, zI, zC, zJ, zK, zL, zD, zE, zF, zM, zN, zO, zP, zQ, reduceCtorEq, fs, fq, addr_add_eq, Nat.zero_add]) | refine iX ?_ ?_ <;> intro _ | refine And.intro (by omega) ?_ | refine dq ?_)
  refine (gfold_c m.length dv mv _ d m q lb w5 (h.later l05) (hq.later l05) (RecS.later (OwnR.s hB) (l4.trans l5)) (fun e he => FE w5 l05 e (hmem e (List.mem_append_right _ he))) hT.bl hbk (by omega)).mono ?_
  rintro _ w6 ⟨nv, ne, rfl, hn, l6⟩
  have l16 := l15.trans l6
  have l06 := l05.trans l6
  by_cases x0 : xe = 0
  case neg =>
    have e0 : decide (xe = 0) = false := decide_eq_false x0
    repeat' (first | (simp (disch := omega) only [push_cast, ↓reduceIte, zA, zG, zB, zH, zI, zC, zJ, zK, zL, zD, zE, zF, zM, zN, zO, zP, zQ, reduceCtorEq, e0]) | refine iX ?_ ?_ <;> intro _ | refine And.intro (by omega) ?_ | refine dq ?_)
    refine (alive25_c w6).mono ?_
    rintro _ w7 ⟨rfl, l7⟩
    repeat' (first | (simp (disch := omega) only [push_cast, ↓reduceIte, zA, zG, zB, zH, zI, zC, zJ, zK, zL, zD, zE, zF, zM, zN, zO, zP, zQ, reduceCtorEq]) | refine iX ?_ ?_ <;> intro _ | refine And.intro (by omega) ?_ | refine dq ?_)
    first | exact ⟨rfl, (l06.trans l7)⟩ | exact (l06.trans l7)
  have e0 : decide (xe = 0) = true := decide_eq_true x0
  by_cases m0 : me = 0
  case neg =>
    have e1 : decide (me = 0) = false := decide_eq_false m0
    repeat' (first | (simp (disch := omega) only [push_cast, ↓reduceIte, zA, zG, zB, zH, zI, zC, zJ, zK, zL, zD, zE, zF, zM, zN, zO, zP, zQ, reduceCtorEq, e0, e1]) | refine iX ?_ ?_ <;> intro _ | refine And.intro (by omega) ?_ | refine dq ?_)
    refine (alive25_c w6).mono ?_
    rintro _ w7 ⟨rfl, l7⟩
    repeat' (first | (simp (disch := omega) only [push_cast, ↓reduceIte, zA, zG, zB, zH, zI, zC, zJ, zK, zL, zD, zE, zF, zM, zN, zO, zP, zQ, reduceCtorEq]) | refine iX ?_ ?_ <;> intro _ | refine And.intro (by omega) ?_ | refine dq ?_)
    first | exact ⟨rfl, (l06.trans l7)⟩ | exact (l06.trans l7)
  have e1 : decide (me = 0) = true := decide_eq_true m0
  by_cases n0 : ne = 0
  case neg =>
    have e2 : decide (ne = 0) = false := decide_eq_false n0
    repeat' (first | (simp (disch := omega) only [push_cast, ↓reduceIte, zA, zG, zB, zH, zI, zC, zJ, zK, zL, zD, zE, zF, zM, zN, zO, zP, zQ, reduceCtorEq, e0, e1, e2]) | refine iX ?_ ?_ <;> intro _ | refine And.intro (by omega) ?_ | refine dq ?_)
    refine (alive25_c w6).mono ?_
    rintro _ w7 ⟨rfl, l7⟩
    repeat' (first | (simp (disch := omega) only [push_cast, ↓reduceIte, zA, zG, zB, zH, zI, zC, zJ, zK, zL, zD, zE, zF, zM, zN, zO, zP, zQ, reduceCtorEq]) | refine iX ?_ ?_ <;> intro _ | refine And.intro (by omega) ?_ | refine dq ?_)
    first | exact ⟨rfl, (l06.trans l7)⟩ | exact (l06.trans l7)
  have e2 : decide (ne = 0) = true := decide_eq_true n0
  rcases hx with ⟨hx, _⟩ | ⟨_, xs, hxs, hxi, hxL⟩
  · rw [x0] at hx; cases hx
  rcases hm with ⟨hm, _⟩ | ⟨_, ms, hmo, hmF, hmE⟩
  · rw [m0] at hm; cases hm
  rcases hn with ⟨hn, _⟩ | ⟨_, ns, hno, hnF, hnE⟩
  · rw [n0] at hn; cases hn
  have hml : ms.length ≤ 120 := by
    have h1 := hmF.len
    have h2 := grpL_len d q (la.map El.abs)
    rw [List.length_map] at h1 h2
    omega
  have hnl : ns.length ≤ 120 := by
    have h1 := hnF.len
    have h2 := grpL_len d q (lb.map El.abs)
    rw [List.length_map] at h1 h2
    omega
  obtain ⟨om, cm, rfl, _⟩ := RecS.slice (OwnR.s hmo)
  obtain ⟨on, cn, rfl, _⟩ := RecS.slice (OwnR.s hno)
  obtain ⟨ox, cx, rfl, _⟩ := RecS.slice hxs
  have hmo6 := hmo.later l6
  repeat' (first | (simp (disch := omega) only [push_cast, ↓reduceIte, zA, zG, zB, zH, zI, zC, zJ, zK, zL, zD, zE, zF, zM, zN, zO, zP, zQ, reduceCtorEq, e0, e1, e2]) | refine iX ?_ ?_ <;> intro _ | refine And.intro (by omega) ?_ | refine dq ?_)
  refine vAppend_e (r := ns) hmo6 (OwnR.s hno) (fun e he => (hnE e he).1.is) (by omega) (l5.trans l6).size ?_
  intro v' w7 ho7 hg7 _
  have l47 := (l5.trans l6).appended hmo6 (Nat.le_refl _) hg7
  have l17 := l14.trans l47
  have l07 := l04.trans l47
  have hE7 : ∀ e ∈ ms ++ ns, EIs w7 e ∧ Gd q.bl.length m.length e.abs := fun e he => by
    rcases List.mem_append.1 he with he | he
    · exact ⟨(((hmE e he).1.later l6).grown hmo6 hg7).is, (hmE e he).2⟩
    · exact ⟨((hnE e he).1.grown hmo6 hg7).is, (hnE e he).2⟩
  obtain ⟨o7, c7, rfl, _⟩ := RecS.slice (OwnR.s ho7)
  have fs := FS w7 l17
  have fq := FQ w7 l17
  repeat' (first | (simp (disch := omega) only [push_cast, ↓reduceIte, zA, zG, zB, zH, zI, zC, zJ, zK, zL, zD, zE, zF, zM, zN, zO, zP, zQ, reduceCtorEq, fs, fq, addr_add_eq, Nat.zero_add]) | refine iX ?_ ?_ <;> intro _ | refine And.intro (by omega) ?_ | refine dq ?_)
  refine (gfinish_c q.bl.length dv mv _ d m q (ms ++ ns) w7 (h.later l07) (hq.later l07) hT (OwnR.s ho7) hE7 (by rw [List.length_append]; omega)).mono ?_
  rintro _ w8 ⟨yv, ye, rfl, hy, l8⟩
  repeat' (first | (simp (disch := omega) only [push_cast, ↓reduceIte, zA, zG, zB, zH, zI, zC, zJ, zK, zL, zD, zE, zF, zM, zN, zO, zP, zQ, reduceCtorEq]) | refine iX ?_ ?_ <;> intro _ | refine And.intro (by omega) ?_ | refine dq ?_)
  refine (alive25_c w8).mono ?_
  rintro _ w9 ⟨rfl, l9⟩
  have l49 := l47.trans (l8.trans l9)
  have l09 := l04.trans l49
  rcases hy with ⟨rfl, rfl, _⟩ | ⟨rfl, ys, hys, hyi, hyL⟩
  · repeat' (first | (simp (disch := omega) only [push_cast, ↓reduceIte, zA, zG, zB, zH, zI, zC, zJ, zK, zL, zD, zE, zF, zM, zN, zO, zP, zQ, reduceCtorEq]) | refine iX ?_ ?_ <;> intro _ | refine And.intro (by omega) ?_ | refine dq ?_)
    first | exact ⟨rfl, l09⟩ | exact l09
  · obtain ⟨oy, cy, rfl, _⟩ := RecS.slice hys
    have hyL' : FinL m q ((ms.map El.abs) ++ (ns.map El.abs)) (ys.map Gx.abs) := by rw [← List.map_append]; exact hyL
    have heq : ys.map Gx.abs = xs.map Gx.abs := hxL.one hyL' fun rows out h1 h2 => F.parts hperm h1 hmF hnF h2
    repeat' (first | (simp (disch := omega) only [push_cast, ↓reduceIte, zA, zG, zB, zH, zI, zC, zJ, zK, zL, zD, zE, zF, zM, zN, zO, zP, zQ, reduceCtorEq]) | refine iX ?_ ?_ <;> intro _ | refine And.intro (by omega) ?_ | refine dq ?_)
    refine (gsame_c _ _ xs ys w9 (hxs.later l49) (hys.later l9) (fun z hz => (hxi z hz).later l49) (fun z hz => (hyi z hz).later l9)).mono ?_
    rintro _ w10 ⟨⟨t, rfl, ht⟩, l10⟩
    rw [ht.2 heq.symm]
    repeat' (first | (simp (disch := omega) only [push_cast, ↓reduceIte, zA, zG, zB, zH, zI, zC, zJ, zK, zL, zD, zE, zF, zM, zN, zO, zP, zQ, reduceCtorEq]) | refine iX ?_ ?_ <;> intro _ | refine And.intro (by omega) ?_ | refine dq ?_)
    first | exact ⟨rfl, (l09.trans l10)⟩ | exact (l09.trans l10)
theorem own : ownKnob Try.prog.godebug = none := by kernel_rfl
theorem lifted (os : Os) (started : os.Started) (H : Type) (enc : TypeId × Value → H) :
    ReturnsInHanded {} Try.checked os 7 .any (Rows.groupPartsSpec.pre6 enc Try.prog Try.f7 Rows.groupPartsRow.domain false) (Rows.groupPartsSpec.post enc Try.prog Try.f7 false true false false) := by
  refine lifted_laterZ (C := Try.checked) own started (by kernel_rfl) Try.func7 hb7
    (ChangeSpec.witness6 (enc := enc) (C := Try.checked) false ⟨#[], #[.agg #[.slice none 0 0, .slice none 0 0], .agg #[.slice none 0 0, .int .i64 0, .int .i64 0, .int .i64 0, .slice none 0 0, .int .i64 0, .string ⟨#[]⟩, .string ⟨#[]⟩, .slice none 0 0, .slice none 0 0, .int .i64 0, .int .i64 0, .slice none 0 0], .int .i64 0], []⟩ 20 (by kernel_rfl) (by kernel_rfl) (by kernel_rfl) (by kernel_rfl))
    (by kernel_rfl) (list_all (by kernel_rfl)) (by kernel_rfl) Try.underlying4 rfl ?_ ?_
  · intro ds h
    have h : ds.length = 3 := h
    match ds, h with
    | [_, _, _], _ => rfl
  · intro W base args ds p hval0 hz0 hA0
    have hval : ∀ (j : Nat) t v, Try.f7.params[j]? = some t → args[j]? = some v → Value.okWide Try.prog W .any base t v := hval0
    have hz : ∀ (j : Nat) t d, Try.f7.params.toList[j]? = some t → ds[j]? = some d → Sz Try.prog t d := hz0
    have hA : DataW.TrodAll enc Try.prog W 0 (fun _ => true) true Try.f7.params.toList args.toList ds p := hA0
    rw [Try.params7] at hA hval hz
    obtain ⟨v0, vs0, d0, ds0, p0, q0, hargs, rfl, rfl, h0, r0⟩ := trodAll_cons hA
    obtain ⟨v1, vs1, d1, ds1, p1, q1, rfl, rfl, rfl, h1, r1⟩ := trodAll_cons r0
    obtain ⟨v2, vs2, d2, ds2, p2, q2, rfl, rfl, rfl, h2, r2⟩ := trodAll_cons r1
    obtain ⟨rfl, rfl, rfl⟩ := trodAll_nil r2
    obtain rfl : args = #[v0, v1, v2] := by cases args; simp_all
    obtain ⟨cs0, e0, w0⟩ := openZ_agg ⟨_, Try.underlying24⟩ (fun _ => z_schema) (hval 0 24 v0 rfl rfl) h0 (hz 0 _ _ rfl rfl)
    obtain ⟨cs1, e1, w1⟩ := openZ_agg ⟨_, Try.underlying67⟩ (fun _ => z_asked) (hval 1 67 v1 rfl rfl) h1 (hz 1 _ _ rfl rfl)
    obtain ⟨a2, rfl, rfl, rfl, w2⟩ := open_int Try.underlying3 (hval 2 3 v2 rfl rfl) h2
    obtain ⟨dv0, mv0, dl0, ml0, rfl, ok0⟩ := w0
    subst e0
    obtain ⟨m1, av1, al1, rfl, ok1, ar1, ae1⟩ := w1
    subst e1
    exact law_c dv0 mv0 av1 dl0 ml0 m1 al1 a2 W (ScIs.of_ok ok0) ok1 ar1 ae1 (i64_of_wf w2)
theorem over : Rows.groupPartsRow.holds Try.pinned (OpenSpec.ofChange Rows.groupPartsSpec) :=
  OpenClaim.holds_of_wide 7 Try.f7 rfl rfl rfl rfl rfl rfl rfl ⟨rfl, rfl, rfl, rfl, rfl⟩ rfl rfl rfl rfl rfl (by kernel_rfl) Try.func7 (by kernel_rfl)
    (of_decide_eq_true (by kernel_rfl)) (by unfold Func.isWrapper; first | (rw [if_pos (by decide +kernel)]; kernel_rfl) | (rw [if_neg (by decide +kernel)]; exact ⟨rfl, rfl⟩))
    (fun os started H enc _ => lifted os started H enc)
/-- The statement. -/
theorem proved : Rows.GroupPartsSaid :=
  over
end Go.Proofs.Ytnofalhkapmcnaa.groupParts
