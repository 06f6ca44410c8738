/- RowsFold holds for every input: any right rows fold to what the document says, or the error; the list stays; whether it is sorted, too. -/
import Derived.Test.YthihbgpaoldbjaaRows
import Derived.Test.YthihbgpaoldbjaaPartM
open Nat renaming reduceEqDiff → zA, reducePow → zB, reduceMul → zC, reduceAdd → zD, reduceSub → zE, reduceLeDiff → zF
open Int renaming reduceToNat → zG, reducePow → zH, reduceNeg → zI, reduceMul → zJ, reduceAdd → zK, reduceSub → zL, reduceLT → zM, reduceLE → zN, reduceEq → zO, reduceMod → zP, reduceDiv → zQ
set_option linter.unusedSimpArgs false
namespace Go.Proofs.Ythihbgpaoldbjaa.rowsFold
open Go.Vc Go.Key Go.Fold Go.Stab Go.ChangeShapes Go.WideShapes Go.ChangeAt Go.RowKit
set_option maxRecDepth 100000
theorem law_c (dv mv v : Value) (d m : List ByteArray) (l : List El) (w : World) (h : ScIs w dv mv d m) (hl : RecS elC 4 w v l) (hes : ∀ e ∈ l, ElQ w e) : FnC Try.prog 7 #[scV dv mv, v] w fun r w' => r = .bool true ∧ Later w w' := by
  unfold scV
  have hl0 := hl
  obtain ⟨ol, cl, rfl, gl1, gl2⟩ := hl.slice
  refine enter7 _ _ ?_
  unfold B7
  obtain ⟨l1, s1, F⟩ := box2 w dv mv 24
  have eca : (Value.agg #[dv, mv]).cells = #[dv, mv] := rfl
  repeat' (first | (simp (disch := omega) only [push_cast, ↓reduceIte, zA, zG, zB, zH, zI, zC, zJ, zK, zL, zD, zE, zF, zM, zN, zO, zP, zQ, reduceCtorEq, not_true_eq_false, not_false_eq_true, eca, s1]) | (first | refine vIfE_of ?_ ?_ | refine vIfD_of ?_ ?_ | refine vIfQ_of ?_ ?_ | refine vIfV_of ?_ ?_) <;> intro _ | refine And.intro (by omega) ?_ | fail)
  generalize w.alloc (.cells #[dv, mv] 24) = w1 at *
  obtain ⟨a0, a1, a2⟩ := F w1 (Later.refl _)
  repeat' (first | (simp (disch := omega) only [push_cast, ↓reduceIte, zA, zG, zB, zH, zI, zC, zJ, zK, zL, zD, zE, zF, zM, zN, zO, zP, zQ, reduceCtorEq, not_true_eq_false, not_false_eq_true, a2]) | (first | refine vIfE_of ?_ ?_ | refine vIfD_of ?_ ?_ | refine vIfQ_of ?_ ?_ | refine vIfV_of ?_ ?_) <;> intro _ | refine And.intro (by omega) ?_ | refine drawn_q ?_ | fail)
  refine (fits13_c dv mv _ d m l w1 (h.later l1) (hl.later l1) (fun e he => ⟨(hes e he).is.later l1, (hes e he).z⟩)).mono ?_
  rintro _ w2 ⟨rfl, l2⟩
  have l02 := l1.trans l2
  by_cases hF : F13 d m l
  case neg =>
    rw [decide_eq_false hF]
    repeat' (first | (simp (disch := omega) only [push_cast, ↓reduceIte, zA, zG, zB, zH, zI, zC, zJ, zK, zL, zD, zE, zF, zM, zN, zO, zP, zQ, reduceCtorEq, not_true_eq_false, not_false_eq_true]) | (first | refine vIfE_of ?_ ?_ | refine vIfD_of ?_ ?_ | refine vIfQ_of ?_ ?_ | refine vIfV_of ?_ ?_) <;> intro _ | refine And.intro (by omega) ?_ | refine drawn_q ?_ | fail)
    refine (alive13_c w2).mono ?_
    rintro _ w3 ⟨rfl, l3⟩
    repeat' (first | (simp (disch := omega) only [push_cast, ↓reduceIte, zA, zG, zB, zH, zI, zC, zJ, zK, zL, zD, zE, zF, zM, zN, zO, zP, zQ, reduceCtorEq, not_true_eq_false, not_false_eq_true]) | (first | refine vIfE_of ?_ ?_ | refine vIfD_of ?_ ?_ | refine vIfQ_of ?_ ?_ | refine vIfV_of ?_ ?_) <;> intro _ | refine And.intro (by omega) ?_ | refine drawn_q ?_ | fail)
    first | exact ⟨rfl, (l02.trans l3)⟩ | exact (l02.trans l3)
  rw [decide_eq_true hF]
  obtain ⟨_, _, hn, hs, hr⟩ := hF
  have gd : ∀ e ∈ l, Gd d.length m.length e.abs := fun e he => gd_of (hr e he) hs
  repeat' (first | (simp (disch := omega) only [push_cast, ↓reduceIte, zA, zG, zB, zH, zI, zC, zJ, zK, zL, zD, zE, zF, zM, zN, zO, zP, zQ, reduceCtorEq, not_true_eq_false, not_false_eq_true]) | (first | refine vIfE_of ?_ ?_ | refine vIfD_of ?_ ?_ | refine vIfQ_of ?_ ?_ | refine vIfV_of ?_ ?_) <;> intro _ | refine And.intro (by omega) ?_ | refine drawn_q ?_ | fail)
  refine (copy_c _ l w2 (hl.later l02) (fun e he => ⟨(hes e he).is.later l02, by have := (gd e he).rr.1.dl; omega, by have := (gd e he).rr.1.al; omega⟩) (by omega)).mono ?_
  rintro cv w3 ⟨⟨cs, hco, hca, hcE⟩, l3⟩
  have l03 := l02.trans l3
  obtain ⟨oc, cc, rfl, _⟩ := RecS.slice (OwnR.s hco)
  have hcl : cs.length = l.length := by have := congrArg List.length hca; simpa using this
  repeat' (first | (simp (disch := omega) only [push_cast, ↓reduceIte, zA, zG, zB, zH, zI, zC, zJ, zK, zL, zD, zE, zF, zM, zN, zO, zP, zQ, reduceCtorEq, not_true_eq_false, not_false_eq_true]) | (first | refine vIfE_of ?_ ?_ | refine vIfD_of ?_ ?_ | refine vIfQ_of ?_ ?_ | refine vIfV_of ?_ ?_) <;> intro _ | refine And.intro (by omega) ?_ | refine drawn_q ?_ | fail)
  refine (rfold_c d.length m.length _ l w3 (hl.later l03) (fun e he => ⟨(hes e he).is.later l03, gd e he⟩) (by omega)).mono ?_
  rintro _ w4 ⟨xv, e, rfl, hx, l4⟩
  have l04 := l03.trans l4
  repeat' (first | (simp (disch := omega) only [push_cast, ↓reduceIte, zA, zG, zB, zH, zI, zC, zJ, zK, zL, zD, zE, zF, zM, zN, zO, zP, zQ, reduceCtorEq, not_true_eq_false, not_false_eq_true]) | (first | refine vIfE_of ?_ ?_ | refine vIfD_of ?_ ?_ | refine vIfQ_of ?_ ?_ | refine vIfV_of ?_ ?_) <;> intro _ | refine And.intro (by omega) ?_ | refine drawn_q ?_ | fail)
  refine (dfold_c d.length m.length _ l w4 (hl.later l04) (fun e he => ⟨(hes e he).is.later l04, gd e he⟩) (by omega)).mono ?_
  rintro _ w5 ⟨yv, f, rfl, hy, l5⟩
  have l05 := l04.trans l5
  repeat' (first | (simp (disch := omega) only [push_cast, ↓reduceIte, zA, zG, zB, zH, zI, zC, zJ, zK, zL, zD, zE, zF, zM, zN, zO, zP, zQ, reduceCtorEq, not_true_eq_false, not_false_eq_true]) | (first | refine vIfE_of ?_ ?_ | refine vIfD_of ?_ ?_ | refine vIfQ_of ?_ ?_ | refine vIfV_of ?_ ?_) <;> intro _ | refine And.intro (by omega) ?_ | refine drawn_q ?_ | fail)
  refine (alive13_c w5).mono ?_
  rintro _ w6 ⟨rfl, l6⟩
  have l06 := l05.trans l6
  obtain ⟨he, xs, ys, hxs, hys, hex, hey, hxy⟩ := fold_one hx hy
  subst he
  obtain ⟨ox, cx, rfl, _⟩ := RecS.slice hxs
  obtain ⟨oy, cy, rfl, _⟩ := RecS.slice hys
  repeat' (first | (simp (disch := omega) only [push_cast, ↓reduceIte, zA, zG, zB, zH, zI, zC, zJ, zK, zL, zD, zE, zF, zM, zN, zO, zP, zQ, reduceCtorEq, not_true_eq_false, not_false_eq_true]) | (first | refine vIfE_of ?_ ?_ | refine vIfD_of ?_ ?_ | refine vIfQ_of ?_ ?_ | refine vIfV_of ?_ ?_) <;> intro _ | refine And.intro (by omega) ?_ | refine drawn_q ?_ | fail)
  refine (dsame_c _ _ xs ys w6 (RecS.later hxs (l5.trans l6)) (RecS.later hys l6) (fun e he => (hex e he).later (l5.trans l6)) (fun e he => (hey e he).later l6)).mono ?_
  rintro _ w7 ⟨⟨t, rfl, ht⟩, l7⟩
  obtain rfl := ht.2 hxy
  have l07 := l06.trans l7
  repeat' (first | (simp (disch := omega) only [push_cast, ↓reduceIte, zA, zG, zB, zH, zI, zC, zJ, zK, zL, zD, zE, zF, zM, zN, zO, zP, zQ, reduceCtorEq, not_true_eq_false, not_false_eq_true, decide_true]) | (first | refine vIfE_of ?_ ?_ | refine vIfD_of ?_ ?_ | refine vIfQ_of ?_ ?_ | refine vIfV_of ?_ ?_) <;> intro _ | refine And.intro (by omega) ?_ | refine drawn_q ?_ | fail)
  refine (dsame_c _ _ l cs w7 (hl.later l07) (RecS.later (OwnR.s hco) (((l4.trans l5).trans l6).trans l7)) (fun e he => (hes e he).is.later l07) (fun e he => (hcE e he).is.later (((l4.trans l5).trans l6).trans l7))).mono ?_
  rintro _ w8 ⟨⟨t, rfl, ht⟩, l8⟩
  obtain rfl := ht.2 hca.symm
  have l08 := l07.trans l8
  repeat' (first | (simp (disch := omega) only [push_cast, ↓reduceIte, zA, zG, zB, zH, zI, zC, zJ, zK, zL, zD, zE, zF, zM, zN, zO, zP, zQ, reduceCtorEq, not_true_eq_false, not_false_eq_true]) | (first | refine vIfE_of ?_ ?_ | refine vIfD_of ?_ ?_ | refine vIfQ_of ?_ ?_ | refine vIfV_of ?_ ?_) <;> intro _ | refine And.intro (by omega) ?_ | refine drawn_q ?_ | fail)
  refine (sorted_c _ l w8 (hl.later l08) (fun e he => (hes e he).is.later l08)).mono ?_
  rintro _ w9 ⟨rfl, l9⟩
  have l09 := l08.trans l9
  repeat' (first | (simp (disch := omega) only [push_cast, ↓reduceIte, zA, zG, zB, zH, zI, zC, zJ, zK, zL, zD, zE, zF, zM, zN, zO, zP, zQ, reduceCtorEq, not_true_eq_false, not_false_eq_true]) | (first | refine vIfE_of ?_ ?_ | refine vIfD_of ?_ ?_ | refine vIfQ_of ?_ ?_ | refine vIfV_of ?_ ?_) <;> intro _ | refine And.intro (by omega) ?_ | refine drawn_q ?_ | fail)
  refine (dsorted_c d.length _ l w9 (hl.later l09) (fun e he => ⟨(hes e he).is.later l09, (hr e he).1⟩)).mono ?_
  rintro _ w10 ⟨rfl, l10⟩
  repeat' (first | (simp (disch := omega) only [push_cast, ↓reduceIte, zA, zG, zB, zH, zI, zC, zJ, zK, zL, zD, zE, zF, zM, zN, zO, zP, zQ, reduceCtorEq, not_true_eq_false, not_false_eq_true, decide_true]) | (first | refine vIfE_of ?_ ?_ | refine vIfD_of ?_ ?_ | refine vIfQ_of ?_ ?_ | refine vIfV_of ?_ ?_) <;> intro _ | refine And.intro (by omega) ?_ | refine drawn_q ?_ | fail)
  first | exact ⟨rfl, (l09.trans l10)⟩ | exact (l09.trans l10)
theorem own : ownKnob Try.prog.godebug = none := by kernel_rfl
theorem lifted (os : Os) (started : os.Started) (H : Type) (enc : TypeId × Value → H) :
    ReturnsInHanded {} Try.checked os 7 .any (Rows.rowsFoldSpec.pre6 enc Try.prog Try.f7 Rows.rowsFoldRow.domain false) (Rows.rowsFoldSpec.post enc Try.prog Try.f7 false true false false) := by
  refine lifted_later (C := Try.checked) own started (by kernel_rfl) Try.func7 hb7
    (ChangeSpec.witness6 (enc := enc) (C := Try.checked) false ⟨#[], #[.agg #[.slice none 0 0, .slice none 0 0], .slice none 0 0], []⟩ 7 (by kernel_rfl) (by kernel_rfl) (by kernel_rfl) (by kernel_rfl))
    (by kernel_rfl) (list_all (by kernel_rfl)) (by kernel_rfl) Try.underlying4 rfl ?_ ?_
  · intro ds h
    have h : ds.length = 2 := h
    match ds, h with
    | [_, _], _ => rfl
  · intro W base args ds p hval0 hA0
    have hval : ∀ (j : Nat) t v, Try.f7.params[j]? = some t → args[j]? = some v → Value.okWide Try.prog W .any base t v := hval0
    have hA : DataW.TrodAll enc Try.prog W 0 (fun _ => true) true Try.f7.params.toList args.toList ds p := hA0
    rw [Try.params7] at hA hval
    obtain ⟨v0, vs0, d0, ds0, p0, q0, hargs, rfl, rfl, h0, r0⟩ := trodAll_cons hA
    obtain ⟨v1, vs1, d1, ds1, p1, q1, rfl, rfl, rfl, h1, r1⟩ := trodAll_cons r0
    obtain ⟨rfl, rfl, rfl⟩ := trodAll_nil r1
    obtain rfl : args = #[v0, v1] := by cases args; simp_all
    obtain ⟨a0, w0⟩ := open_schema (hval 0 24 v0 rfl rfl) h0
    obtain ⟨a1, w1⟩ := open_rowsQ (hval 1 25 v1 rfl rfl) h1
    exact (by obtain ⟨rfl, hs⟩ := w0; exact law_c _ _ _ _ _ _ _ hs w1.1 w1.2)
theorem over : Rows.rowsFoldRow.holds Try.pinned (OpenSpec.ofChange Rows.rowsFoldSpec) :=
  OpenClaim.holds_of_wide 7 Try.f7 rfl rfl rfl rfl rfl rfl rfl ⟨rfl, rfl, rfl, rfl, rfl⟩ rfl rfl rfl rfl rfl (by kernel_rfl) Try.func7 (by kernel_rfl)
    (of_decide_eq_true (by kernel_rfl)) (by unfold Func.isWrapper; first | (rw [if_pos (by decide +kernel)]; kernel_rfl) | (rw [if_neg (by decide +kernel)]; exact ⟨rfl, rfl⟩))
    (fun os started H enc _ => lifted os started H enc)
/-- The statement. -/
theorem proved : Rows.RowsFoldSaid :=
  over
end Go.Proofs.Ythihbgpaoldbjaa.rowsFold
