/- Contracts: rows sorted, each class in its order. -/
import Derived.Shelf.Strings.IndexAnyAll
import Derived.Shelf.Small.Utf8
import Derived.WalkMore
import Derived.Handy
import Derived.Lib.BufferKept
import Derived.Deep.DeepBigQuietO
import Derived.Shelf.Strings.Search1
import Derived.Laws.Runes
import Derived.Laws.RangeAny
import Derived.Test.YthihbgpaoldbjaaPartK
set_option linter.all false
open Nat renaming reduceEqDiff → zA, reducePow → zB, reduceMul → zC, reduceAdd → zD, reduceSub → zE, reduceLeDiff → zF
open Int renaming reduceToNat → zG, reducePow → zH, reduceNeg → zI, reduceMul → zJ, reduceAdd → zK, reduceSub → zL, reduceLT → zM, reduceLE → zN, reduceEq → zO, reduceMod → zP, reduceDiv → zQ
section
set_option linter.unusedSimpArgs false
namespace Go.Proofs.Ythihbgpaoldbjaa
open Go.Vc Go.Key Go.Stab
set_option maxRecDepth 100000
theorem bs_take (bs : Nat) (R : List El) (h : bs + bs ≤ R.length) : R = (R.take bs ++ (R.drop bs).take bs) ++ R.drop (bs + bs) := by
  have h1 : R.drop bs = (R.drop bs).take bs ++ (R.drop bs).drop bs := (List.take_append_drop _ _).symm
  rw [List.drop_drop] at h1
  have h2 : R = R.take bs ++ R.drop bs := (List.take_append_drop _ _).symm
  rw [List.append_assoc, ← h1, ← h2]
set_option maxHeartbeats 2000000 in
theorem stable_c (B B' g c : Nat) (L l : List El) (w : World) (h : Sw w B B' g c L l) :
    FnC Try.prog 100 #[.slice (some ⟨g, 0, none⟩) l.length c, .int .i64 (l.length : Int), cmpV] w fun r w' => ∃ l', Srt elt l' ∧ Stb elt l l' ∧ Sw w' B B' g c L l' ∧ Chg w w' [g] := by
  have hbig := h.big
  generalize hN : l.length = N at *
  refine enter100 _ _ _ ?_
  unfold B100
  repeat' (first | (simp (disch := omega) only [push_cast, ↓reduceIte, zA, zG, zB, zH, zI, zC, zJ, zK, zL, zD, zE, zF, zM, zN, zO, zP, zQ, reduceCtorEq, not_true_eq_false, not_false_eq_true]) | (first | refine vIfE_of ?_ ?_ | refine vIfD_of ?_ ?_ | refine vIfQ_of ?_ ?_ | refine vIfV_of ?_ ?_) <;> intro _ | refine And.intro (by omega) ?_ | refine drawn_q ?_ | fail)
  refine vc_loop W100_0 (fun A : Nat => [(7, .int .i64 (A : Int)), (8, .int .i64 ((A : Int) + 20))])
    (fun A w' => (∃ k, A = k * 20) ∧ ∃ P R, P.length = A ∧ P.length + R.length = N ∧ Bs elt 20 P ∧ Stb elt l (P ++ R) ∧ Sw w' B B' g c L (P ++ R) ∧ Chg w w' [g]) (fun A => N - A) 0 (by decide) ?_ ?_ ?_
  · simp (disch := omega) only [push_cast, ↓reduceIte, zA, zG, zB, zH, zI, zC, zJ, zK, zL, zD, zE, zF, zM, zN, zO, zP, zQ, reduceCtorEq, not_true_eq_false, not_false_eq_true]
  · exact ⟨⟨0, rfl⟩, [], l, rfl, by simp [hN], Bs.nil, Stb.refl _, h, Chg.refl _ _⟩
  rintro A uu w1 ⟨⟨k, hk⟩, P, R, hP, hPR, bP, tl, h1, c1⟩
  by_cases hlt : A + 20 ≤ N
  · have hR : R = R.take 20 ++ R.drop 20 := (List.take_append_drop _ _).symm
    have n1 : (R.take 20).length = 20 := by rw [List.length_take]; omega
    have n2 : (R.drop 20).length = R.length - 20 := List.length_drop
    generalize R.take 20 = M at *
    generalize R.drop 20 = Y at *
    subst hR
    have hi := insertion_c B B' g c L P M Y w1 (by simpa using h1)
    rw [show (P ++ M ++ Y).length = N by simp only [List.length_append] at *; omega, show P.length + M.length = A + 20 by omega, hP] at hi
    repeat' (first | (simp (disch := omega) only [push_cast, ↓reduceIte, zA, zG, zB, zH, zI, zC, zJ, zK, zL, zD, zE, zF, zM, zN, zO, zP, zQ, reduceCtorEq, not_true_eq_false, not_false_eq_true]) | (first | refine vIfE_of ?_ ?_ | refine vIfD_of ?_ ?_ | refine vIfQ_of ?_ ?_ | refine vIfV_of ?_ ?_) <;> intro _ | refine And.intro (by omega) ?_ | refine drawn_q ?_ | fail)
    refine hi.mono ?_
    rintro _ w2 ⟨M', sM, tM, h2, c2⟩
    have hl' := tM.1
    obtain ⟨A', hA'⟩ : ∃ A', A' = A + 20 := ⟨_, rfl⟩
    have eA : (A : Int) + 20 = (A' : Int) := by omega
    repeat' (first | (simp (disch := omega) only [push_cast, ↓reduceIte, zA, zG, zB, zH, zI, zC, zJ, zK, zL, zD, zE, zF, zM, zN, zO, zP, zQ, reduceCtorEq, not_true_eq_false, not_false_eq_true, eA]) | (first | refine vIfE_of ?_ ?_ | refine vIfD_of ?_ ?_ | refine vIfQ_of ?_ ?_ | refine vIfV_of ?_ ?_) <;> intro _ | refine And.intro (by omega) ?_ | refine drawn_q ?_ | fail)
    refine ⟨rfl, A', by simp (disch := omega) only [push_cast, ↓reduceIte, zA, zG, zB, zH, zI, zC, zJ, zK, zL, zD, zE, zF, zM, zN, zO, zP, zQ, reduceCtorEq, not_true_eq_false, not_false_eq_true, eA], ⟨⟨k + 1, by omega⟩, P ++ M', Y, by rw [List.length_append]; omega, by rw [List.length_append]; rw [List.length_append] at hPR; omega, bP.snoc (k := k) (by omega) sM (by omega), ?_, h2, c1.trans c2⟩, by dsimp only; omega⟩
    refine tl.trans ?_
    have := ((Stb.refl (lt := elt) P).append tM).append (Stb.refl (lt := elt) Y)
    simpa using this
  · have hi := insertion_c B B' g c L P R [] w1 (by simpa using h1)
    rw [show (P ++ R ++ ([] : List El)).length = N by simp only [List.length_append, List.length_nil]; omega, hPR, hP] at hi
    repeat' (first | (simp (disch := omega) only [push_cast, ↓reduceIte, zA, zG, zB, zH, zI, zC, zJ, zK, zL, zD, zE, zF, zM, zN, zO, zP, zQ, reduceCtorEq, not_true_eq_false, not_false_eq_true]) | (first | refine vIfE_of ?_ ?_ | refine vIfD_of ?_ ?_ | refine vIfQ_of ?_ ?_ | refine vIfV_of ?_ ?_) <;> intro _ | refine And.intro (by omega) ?_ | refine drawn_q ?_ | fail)
    refine hi.mono ?_
    rintro _ w2 ⟨R', sR, tR, h2, c2⟩
    have hl' := tR.1
    have bP' : Bs elt 20 (P ++ R') := bP.snoc (k := k) (by omega) sR (by omega)
    have tl' : Stb elt l (P ++ R') := tl.trans ((Stb.refl (lt := elt) P).append tR)
    have hlen : (P ++ R').length = N := by rw [List.length_append]; omega
    rw [List.append_nil] at h2
    have c12 := c1.trans c2
    clear hi h1 c1 c2 tR sR tl bP
    generalize P ++ R' = cur at *
    repeat' (first | (simp (disch := omega) only [push_cast, ↓reduceIte, zA, zG, zB, zH, zI, zC, zJ, zK, zL, zD, zE, zF, zM, zN, zO, zP, zQ, reduceCtorEq, not_true_eq_false, not_false_eq_true]) | (first | refine vIfE_of ?_ ?_ | refine vIfD_of ?_ ?_ | refine vIfQ_of ?_ ?_ | refine vIfV_of ?_ ?_) <;> intro _ | refine And.intro (by omega) ?_ | refine drawn_q ?_ | fail)
    refine vc_loop W100_1 (fun bs : Nat => [(6, .int .i64 (bs : Int))])
      (fun bs w' => 20 ≤ bs ∧ bs ≤ 2000000 ∧ ∃ cur, cur.length = N ∧ Bs elt bs cur ∧ Stb elt l cur ∧ Sw w' B B' g c L cur ∧ Chg w w' [g]) (fun bs => N - bs) 20 (by decide) ?_ ?_ ?_
    · simp (disch := omega) only [push_cast, ↓reduceIte, zA, zG, zB, zH, zI, zC, zJ, zK, zL, zD, zE, zF, zM, zN, zO, zP, zQ, reduceCtorEq, not_true_eq_false, not_false_eq_true]
    · exact ⟨by omega, by omega, cur, hlen, bP', tl', h2, c12⟩
    clear hlen bP' tl' h2 c12
    rintro bs uu2 w3 ⟨hb1, hb2, cur, hlen, bC, tC, h3, c3⟩
    by_cases hbn : bs < N
    · repeat' (first | (simp (disch := omega) only [push_cast, ↓reduceIte, zA, zG, zB, zH, zI, zC, zJ, zK, zL, zD, zE, zF, zM, zN, zO, zP, zQ, reduceCtorEq, not_true_eq_false, not_false_eq_true]) | (first | refine vIfE_of ?_ ?_ | refine vIfD_of ?_ ?_ | refine vIfQ_of ?_ ?_ | refine vIfV_of ?_ ?_) <;> intro _ | refine And.intro (by omega) ?_ | refine drawn_q ?_ | fail)
      refine vc_loop W100_2 (fun A : Nat => [(7, .int .i64 (A : Int)), (8, .int .i64 ((A : Int) + 2 * (bs : Int)))])
        (fun A w' => (∃ k, A = k * (bs + bs)) ∧ ∃ P R, P.length = A ∧ P.length + R.length = N ∧ Bs elt (bs + bs) P ∧ Bs elt bs R ∧ Stb elt l (P ++ R) ∧ Sw w' B B' g c L (P ++ R) ∧ Chg w w' [g]) (fun A => N - A) 0 (by decide) ?_ ?_ ?_
      · simp (disch := omega) only [push_cast, ↓reduceIte, zA, zG, zB, zH, zI, zC, zJ, zK, zL, zD, zE, zF, zM, zN, zO, zP, zQ, reduceCtorEq, not_true_eq_false, not_false_eq_true, Int.zero_add]
      · exact ⟨⟨0, by simp⟩, [], cur, rfl, by simp [hlen], Bs.nil, bC, tC, h3, c3⟩
      clear hlen bC tC h3 c3
      rintro A uu3 w4 ⟨⟨k, hk⟩, P, R, hP, hPR, bP, bR, tl, h4, c4⟩
      by_cases hlt : A + 2 * bs ≤ N
      · have hR := bs_take bs R (by omega)
        obtain ⟨s1, s2, s3⟩ := bR.two
        have n1 : (R.take bs).length = bs := by rw [List.length_take]; omega
        have n2 : ((R.drop bs).take bs).length = bs := by rw [List.length_take, List.length_drop]; omega
        have n3 : (R.drop (bs + bs)).length = R.length - (bs + bs) := List.length_drop
        generalize R.take bs = U at *
        generalize (R.drop bs).take bs = V at *
        generalize R.drop (bs + bs) = Y at *
        have hRl : R.length = (U ++ V ++ Y).length := congrArg List.length hR
        rw [hR] at tl h4
        have hi := symMerge_c (2 * bs) B B' g c L P U V Y A (A + bs) (A + 2 * bs) w4 (by omega) (by simpa using h4) hP (by omega) (by omega) (by omega) (by omega) s1 s2
        rw [show (P ++ (U ++ V) ++ Y).length = N by simp only [List.length_append] at *; omega, show ((A + bs : Nat) : Int) = (A : Int) + (bs : Int) by omega, show ((A + 2 * bs : Nat) : Int) = (A : Int) + 2 * (bs : Int) by omega] at hi
        repeat' (first | (simp (disch := omega) only [push_cast, ↓reduceIte, zA, zG, zB, zH, zI, zC, zJ, zK, zL, zD, zE, zF, zM, zN, zO, zP, zQ, reduceCtorEq, not_true_eq_false, not_false_eq_true]) | (first | refine vIfE_of ?_ ?_ | refine vIfD_of ?_ ?_ | refine vIfQ_of ?_ ?_ | refine vIfV_of ?_ ?_) <;> intro _ | refine And.intro (by omega) ?_ | refine drawn_q ?_ | fail)
        refine hi.mono ?_
        rintro _ w5 ⟨Z, sZ, tZ, h5, c5⟩
        have hl' := tZ.1
        rw [List.length_append] at hl'
        have hk1 : (k + 1) * (bs + bs) = k * (bs + bs) + (bs + bs) := by rw [Nat.add_mul]; omega
        repeat' (first | (simp (disch := omega) only [push_cast, ↓reduceIte, zA, zG, zB, zH, zI, zC, zJ, zK, zL, zD, zE, zF, zM, zN, zO, zP, zQ, reduceCtorEq, not_true_eq_false, not_false_eq_true]) | (first | refine vIfE_of ?_ ?_ | refine vIfD_of ?_ ?_ | refine vIfQ_of ?_ ?_ | refine vIfV_of ?_ ?_) <;> intro _ | refine And.intro (by omega) ?_ | refine drawn_q ?_ | fail)
        refine ⟨rfl, A + 2 * bs, by simp (disch := omega) only [push_cast, ↓reduceIte, zA, zG, zB, zH, zI, zC, zJ, zK, zL, zD, zE, zF, zM, zN, zO, zP, zQ, reduceCtorEq, not_true_eq_false, not_false_eq_true], ⟨⟨k + 1, by omega⟩, P ++ Z, Y, by rw [List.length_append]; omega, by rw [List.length_append]; omega, bP.snoc (k := k) (by omega) sZ (by omega), s3, ?_, h5, c4.trans c5⟩, by dsimp only; omega⟩
        refine tl.trans ?_
        have := ((Stb.refl (lt := elt) P).append tZ).append (Stb.refl (lt := elt) Y)
        simpa using this
      · have fin : ∀ w5 Z, Srt elt Z → Stb elt R Z → Sw w5 B B' g c L (P ++ Z) → Chg w w5 [g] → 20 ≤ bs * 2 ∧ bs * 2 ≤ 2000000 ∧ ∃ cur, cur.length = N ∧ Bs elt (bs * 2) cur ∧ Stb elt l cur ∧ Sw w5 B B' g c L cur ∧ Chg w w5 [g] := by
          intro w5 Z sZ tZ h5 c5
          have hl' := tZ.1
          refine ⟨by omega, by omega, P ++ Z, by rw [List.length_append]; omega, ?_, tl.trans ((Stb.refl (lt := elt) P).append tZ), h5, c5⟩
          rw [show bs * 2 = bs + bs by omega]
          exact bP.snoc (k := k) (by omega) sZ (by omega)
        obtain ⟨b2, hb2'⟩ : ∃ b2, b2 = bs * 2 := ⟨_, rfl⟩
        rw [← hb2'] at fin
        have eb : (bs : Int) * 2 = (b2 : Int) := by omega
        by_cases hmn : A + bs < N
        · have hR : R = R.take bs ++ R.drop bs := (List.take_append_drop _ _).symm
          obtain ⟨s1, s2, _⟩ := bR.two
          have n1 : (R.take bs).length = bs := by rw [List.length_take]; omega
          have n2 : (R.drop bs).length = R.length - bs := List.length_drop
          rw [List.take_of_length_le (by omega)] at s2
          generalize R.take bs = U at *
          generalize R.drop bs = V at *
          have h4' : Sw w4 B B' g c L (P ++ (U ++ V) ++ []) := by rw [← hR]; simpa using h4
          have hi := symMerge_c (N - A) B B' g c L P U V [] A (A + bs) N w4 rfl h4' hP (by omega) (by omega) (by omega) (by omega) s1 s2
          rw [show (P ++ (U ++ V) ++ ([] : List El)).length = N by rw [← hR]; simp only [List.length_append, List.length_nil]; omega, show ((A + bs : Nat) : Int) = (A : Int) + (bs : Int) by omega] at hi
          repeat' (first | (simp (disch := omega) only [push_cast, ↓reduceIte, zA, zG, zB, zH, zI, zC, zJ, zK, zL, zD, zE, zF, zM, zN, zO, zP, zQ, reduceCtorEq, not_true_eq_false, not_false_eq_true]) | (first | refine vIfE_of ?_ ?_ | refine vIfD_of ?_ ?_ | refine vIfQ_of ?_ ?_ | refine vIfV_of ?_ ?_) <;> intro _ | refine And.intro (by omega) ?_ | refine drawn_q ?_ | fail)
          refine hi.mono ?_
          rintro _ w5 ⟨Z, sZ, tZ, h5, c5⟩
          rw [List.append_nil] at h5
          rw [← hR] at tZ
          have hf := fin w5 Z sZ tZ h5 (c4.trans c5)
          repeat' (first | (simp (disch := omega) only [push_cast, ↓reduceIte, zA, zG, zB, zH, zI, zC, zJ, zK, zL, zD, zE, zF, zM, zN, zO, zP, zQ, reduceCtorEq, not_true_eq_false, not_false_eq_true, eb]) | (first | refine vIfE_of ?_ ?_ | refine vIfD_of ?_ ?_ | refine vIfQ_of ?_ ?_ | refine vIfV_of ?_ ?_) <;> intro _ | refine And.intro (by omega) ?_ | refine drawn_q ?_ | fail)
          exact ⟨rfl, b2, by simp (disch := omega) only [push_cast, ↓reduceIte, zA, zG, zB, zH, zI, zC, zJ, zK, zL, zD, zE, zF, zM, zN, zO, zP, zQ, reduceCtorEq, not_true_eq_false, not_false_eq_true, eb], hf, by dsimp only; omega⟩
        · have hf := fin w4 R (bR.whole (by omega)) (Stb.refl _) h4 c4
          repeat' (first | (simp (disch := omega) only [push_cast, ↓reduceIte, zA, zG, zB, zH, zI, zC, zJ, zK, zL, zD, zE, zF, zM, zN, zO, zP, zQ, reduceCtorEq, not_true_eq_false, not_false_eq_true, eb]) | (first | refine vIfE_of ?_ ?_ | refine vIfD_of ?_ ?_ | refine vIfQ_of ?_ ?_ | refine vIfV_of ?_ ?_) <;> intro _ | refine And.intro (by omega) ?_ | refine drawn_q ?_ | fail)
          exact ⟨rfl, b2, by simp (disch := omega) only [push_cast, ↓reduceIte, zA, zG, zB, zH, zI, zC, zJ, zK, zL, zD, zE, zF, zM, zN, zO, zP, zQ, reduceCtorEq, not_true_eq_false, not_false_eq_true, eb], hf, by dsimp only; omega⟩
    · have hf : ∃ l', Srt elt l' ∧ Stb elt l l' ∧ Sw w3 B B' g c L l' ∧ Chg w w3 [g] := ⟨cur, bC.whole (by omega), tC, h3, c3⟩
      repeat' (first | (simp (disch := omega) only [push_cast, ↓reduceIte, zA, zG, zB, zH, zI, zC, zJ, zK, zL, zD, zE, zF, zM, zN, zO, zP, zQ, reduceCtorEq, not_true_eq_false, not_false_eq_true]) | (first | refine vIfE_of ?_ ?_ | refine vIfD_of ?_ ?_ | refine vIfQ_of ?_ ?_ | refine vIfV_of ?_ ?_) <;> intro _ | refine And.intro (by omega) ?_ | refine drawn_q ?_ | fail)
      exact hf
theorem sortStable_c (B B' g c : Nat) (L l : List El) (w : World) (h : Sw w B B' g c L l) :
    FnC Try.prog 70 #[.slice (some ⟨g, 0, none⟩) l.length c, cmpV] w fun r w' => ∃ l', Srt elt l' ∧ Stb elt l l' ∧ Sw w' B B' g c L l' ∧ Chg w w' [g] := by
  refine enter70 _ _ ?_
  unfold B70
  repeat' (first | (simp (disch := omega) only [push_cast, ↓reduceIte, zA, zG, zB, zH, zI, zC, zJ, zK, zL, zD, zE, zF, zM, zN, zO, zP, zQ, reduceCtorEq, not_true_eq_false, not_false_eq_true]) | (first | refine vIfE_of ?_ ?_ | refine vIfD_of ?_ ?_ | refine vIfQ_of ?_ ?_ | refine vIfV_of ?_ ?_) <;> intro _ | refine And.intro (by omega) ?_ | refine drawn_q ?_ | fail)
  refine (stable_c B B' g c L l w h).mono ?_
  rintro _ w1 h1
  repeat' (first | (simp (disch := omega) only [push_cast, ↓reduceIte, zA, zG, zB, zH, zI, zC, zJ, zK, zL, zD, zE, zF, zM, zN, zO, zP, zQ, reduceCtorEq, not_true_eq_false, not_false_eq_true]) | (first | refine vIfE_of ?_ ?_ | refine vIfD_of ?_ ?_ | refine vIfQ_of ?_ ?_ | refine vIfV_of ?_ ?_) <;> intro _ | refine And.intro (by omega) ?_ | refine drawn_q ?_ | fail)
  exact h1
end Go.Proofs.Ythihbgpaoldbjaa
end
section
set_option linter.unusedSimpArgs false
namespace Go.Fold
open Go.Stab Go.Proofs.Ythihbgpaoldbjaa
theorem Res.stb {l l' : List R} (hs : Stb rlt l l') : (Bad l' → Bad l) ∧ ∀ out, F l' out → F l out := by
  constructor
  · rintro ⟨x, hx, hn⟩
    exact ⟨x, (hs.mem rlt_swo x).1 hx, by rw [← hs.2]; exact hn⟩
  · intro out h
    exact ⟨h.srt, fun x hx => h.nil x (by rw [hs.2]; exact hx), fun x hx => by
      obtain ⟨z, h1, h2⟩ := h.one x (by rw [hs.2]; exact hx)
      exact ⟨z, by rw [← hs.2]; exact h1, h2⟩⟩
theorem stb_abs {l l' : List El} (h : Stb elt l l') : Stb rlt (l.map El.abs) (l'.map El.abs) := by
  refine ⟨by simp [h.1], fun q => ?_⟩
  have e : ∀ m : List El, (m.map El.abs).filter (eqv rlt q) = (m.filter (eqv elt ⟨q.1, q.2.1, q.2.2.1, q.2.2.2, .slice none 0 0, .slice none 0 0⟩)).map El.abs := by
    intro m
    rw [List.filter_map]
    rfl
  rw [e, e, h.2]
/-- What is in the list that is folded to is of a key of the list. -/
theorem F.mem {l out : List R} (h : F l out) {z : R} (hz : z ∈ out) : ∃ y ∈ l, Same z y := by
  have hne : l.filter (eqv rlt z) ≠ [] := fun he => by
    have := h.nil z he
    exact mem_ne hz this
  obtain ⟨y, hy⟩ := List.exists_mem_of_ne_nil _ hne
  obtain ⟨hy, he⟩ := List.mem_filter.1 hy
  exact ⟨y, hy, eqv_same.1 he⟩
/-- A row good to be joined with others of its kind. -/
def Gd (D A : Nat) (q : R) : Prop := 1 ≤ q.2.2.1 ∧ q.2.2.1 ≤ 1048576 ∧ (∀ a ∈ q.2.2.2, ARt a) ∧ q.2.1.length = D ∧ q.2.2.2.length = A ∧ D ≤ 1000 ∧ A ≤ 1000
theorem Gd.rr {D A : Nat} {e : El} (h : Gd D A e.abs) : Rr e ∧ e.d.length = D ∧ e.a.length = A := by
  obtain ⟨h1, h2, h3, h4, h5, h6, h7⟩ := h
  have h4' : e.d.length = D := h4
  have h5' : e.a.length = A := h5
  exact ⟨⟨h1, h2, h3, by omega, by omega⟩, h4', h5'⟩
theorem Gd.join {D A : Nat} {x y z : El} (hx : Gd D A x.abs) (hy : Gd D A y.abs) (h : jn x.abs y.abs = some z.abs) : Gd D A z.abs := by
  obtain ⟨r1, d1, a1⟩ := hx.rr
  obtain ⟨r2, d2, a2⟩ := hy.rr
  obtain ⟨r3, d3, a3⟩ := JR.rr (q := z.abs) r1 r2 (by omega) h
  have d3' : z.abs.2.1.length = D := by show z.d.length = D; omega
  have a3' : z.abs.2.2.2.length = A := by show z.a.length = A; omega
  exact ⟨r3.n1, r3.n2, r3.ag, d3', a3', hx.2.2.2.2.2.1, hx.2.2.2.2.2.2⟩
end Go.Fold
namespace Go.Proofs.Ythihbgpaoldbjaa
open Go.Vc Go.Key Go.Stab Go.Fold
set_option maxRecDepth 100000
/-- What Join answers, as a tuple; the row of it; the error of it. -/
def JV (B : Nat) (z r : El) (v : Value) (w : World) : Prop := ∃ q e, v = .tuple #[elV q, .int .i64 e] ∧ JR z r q e ∧ EO w B q
def JE (B : Nat) (z r : El) (v : Value) (w : World) : Prop := ∃ q e, v = elV q ∧ JR z r q e ∧ EO w B q
def eJ (z r : El) : Int := if (jn z.abs r.abs).isSome then 0 else 121
theorem eJ_is {z r q : El} {e : Int} (hc : ecmp z r = 0) (h : JR z r q e) : eJ z r = e := by
  unfold eJ
  rcases h with ⟨h1, _⟩ | ⟨_, h2, h3, _⟩ | ⟨_, h2, h3⟩
  · exact absurd hc h1
  · rw [h2, h3]; rfl
  · rw [h3, h2]; rfl
theorem stb_jv (w0 : World) (B : Nat) (z r : El) : Stb w0 (JV B z r) := by
  rintro v w w' _ hl ⟨q, e, h1, h2, h3⟩
  exact ⟨q, e, h1, h2, h3.later hl⟩
theorem stb_je (w0 : World) (B : Nat) (z r : El) : Stb w0 (JE B z r) := by
  rintro v w w' _ hl ⟨q, e, h1, h2, h3⟩
  exact ⟨q, e, h1, h2, h3.later hl⟩
theorem exe_ext {P : Program} {t i : Nat} {ty : TypeId} {σ : Env} {w : World} {cs : Array Value} {u : Value} (h : σ t = .tuple cs) (hu : cs[i]? = some u) : exe P (.extract (.tmp t) i) ty σ w = .ok (.value u) w := by
  unfold exe
  simp [execOp, ev, h, hu, val, Instr.extract]
theorem nR_ext {P : Program} {t i : Nat} {ty : TypeId} {rs : List Nat} {Ns : NS} {σ : Env} {w : World} {Kv : Value → Prop} {Kn : (Value → World → Prop) → Prop} {V V' : Value → World → Prop} (ht : t ∈ rs) (hf : findN t Ns = some V) (hV' : Stb w V')
    (h : ∀ v w', V v w' → ∃ cs : Array Value, v = .tuple cs ∧ ∃ u, cs[i]? = some u ∧ V' u w') (hk : Kn V') : nR P (.extract (.tmp t) i) ty rs Ns σ w Kv Kn :=
  .inr ⟨V', hV', fun σ' w' _ hp => by
    obtain ⟨cs, h1, u, h2, h3⟩ := h _ _ (psis_V hp ht hf)
    exact nUp_pure (v := u) (exe_ext h1 h2) h3, hk⟩
theorem nR_extc {P : Program} {t i : Nat} {ty : TypeId} {rs : List Nat} {Ns : NS} {σ : Env} {w : World} {Kv : Value → Prop} {Kn : (Value → World → Prop) → Prop} {V : Value → World → Prop} {u : Value} (ht : t ∈ rs) (hf : findN t Ns = some V)
    (h : ∀ v w', V v w' → ∃ cs : Array Value, v = .tuple cs ∧ cs[i]? = some u) (hk : Kv u) : nR P (.extract (.tmp t) i) ty rs Ns σ w Kv Kn :=
  .inl ⟨u, fun σ' w' _ hp => by
    obtain ⟨cs, h1, h2⟩ := h _ _ (psis_V hp ht hf)
    exact nUp_pure (v := u) (exe_ext h1 h2) rfl, hk⟩
/-- What either Fold answers. -/
def FoldR (D A : Nat) (w : World) (B : Nat) (v : Value) (e : Int) (l : List R) : Prop := (e = 121 ∧ v = .slice none 0 0 ∧ Bad l) ∨ (e = 0 ∧ ∃ es, OwnE w B v es ∧ F l (es.map El.abs) ∧ ∀ z ∈ es, EO w B z ∧ Gd D A z.abs)
theorem ins0_c (w : World) : FnC Try.prog 109 #[.slice none 0 0, .int .i64 0, .int .i64 0, cmpV] w fun r w' => w' = w := by
  refine enter109 _ _ _ _ ?_
  unfold B109
  repeat' (first | (simp (disch := omega) only [push_cast, ↓reduceIte, zA, zG, zB, zH, zI, zC, zJ, zK, zL, zD, zE, zF, zM, zN, zO, zP, zQ, reduceCtorEq, not_true_eq_false, not_false_eq_true]) | (first | refine vIfE_of ?_ ?_ | refine vIfD_of ?_ ?_ | refine vIfQ_of ?_ ?_ | refine vIfV_of ?_ ?_) <;> intro _ | refine And.intro (by omega) ?_ | refine drawn_q ?_ | fail)
  refine vc_loop W109_0 (fun _ : Nat => [(8, .int .i64 1)]) (fun _ w' => w' = w) (fun i => i) 0 (by decide) ?_ ?_ ?_
  · simp (disch := omega) only [push_cast, ↓reduceIte, zA, zG, zB, zH, zI, zC, zJ, zK, zL, zD, zE, zF, zM, zN, zO, zP, zQ, reduceCtorEq, not_true_eq_false, not_false_eq_true]
  · rfl
  rintro i uu w1 hw
  obtain rfl := hw.symm
  repeat' (first | (simp (disch := omega) only [push_cast, ↓reduceIte, zA, zG, zB, zH, zI, zC, zJ, zK, zL, zD, zE, zF, zM, zN, zO, zP, zQ, reduceCtorEq, not_true_eq_false, not_false_eq_true]) | (first | refine vIfE_of ?_ ?_ | refine vIfD_of ?_ ?_ | refine vIfQ_of ?_ ?_ | refine vIfV_of ?_ ?_) <;> intro _ | refine And.intro (by omega) ?_ | refine drawn_q ?_ | fail)
  all_goals rfl
theorem stable0_c (w : World) : FnC Try.prog 100 #[.slice none 0 0, .int .i64 0, cmpV] w fun r w' => w' = w := by
  refine enter100 _ _ _ ?_
  unfold B100
  repeat' (first | (simp (disch := omega) only [push_cast, ↓reduceIte, zA, zG, zB, zH, zI, zC, zJ, zK, zL, zD, zE, zF, zM, zN, zO, zP, zQ, reduceCtorEq, not_true_eq_false, not_false_eq_true]) | (first | refine vIfE_of ?_ ?_ | refine vIfD_of ?_ ?_ | refine vIfQ_of ?_ ?_ | refine vIfV_of ?_ ?_) <;> intro _ | refine And.intro (by omega) ?_ | refine drawn_q ?_ | fail)
  refine vc_loop W100_0 (fun _ : Nat => [(7, .int .i64 0), (8, .int .i64 20)]) (fun _ w' => w' = w) (fun i => i) 0 (by decide) ?_ ?_ ?_
  · simp (disch := omega) only [push_cast, ↓reduceIte, zA, zG, zB, zH, zI, zC, zJ, zK, zL, zD, zE, zF, zM, zN, zO, zP, zQ, reduceCtorEq, not_true_eq_false, not_false_eq_true]
  · rfl
  rintro i uu w1 hw
  obtain rfl := hw.symm
  repeat' (first | (simp (disch := omega) only [push_cast, ↓reduceIte, zA, zG, zB, zH, zI, zC, zJ, zK, zL, zD, zE, zF, zM, zN, zO, zP, zQ, reduceCtorEq, not_true_eq_false, not_false_eq_true]) | (first | refine vIfE_of ?_ ?_ | refine vIfD_of ?_ ?_ | refine vIfQ_of ?_ ?_ | refine vIfV_of ?_ ?_) <;> intro _ | refine And.intro (by omega) ?_ | refine drawn_q ?_ | fail)
  refine (ins0_c w).mono ?_
  rintro _ w1 hw
  obtain rfl := hw.symm
  repeat' (first | (simp (disch := omega) only [push_cast, ↓reduceIte, zA, zG, zB, zH, zI, zC, zJ, zK, zL, zD, zE, zF, zM, zN, zO, zP, zQ, reduceCtorEq, not_true_eq_false, not_false_eq_true]) | (first | refine vIfE_of ?_ ?_ | refine vIfD_of ?_ ?_ | refine vIfQ_of ?_ ?_ | refine vIfV_of ?_ ?_) <;> intro _ | refine And.intro (by omega) ?_ | refine drawn_q ?_ | fail)
  refine vc_loop W100_1 (fun _ : Nat => [(6, .int .i64 20)]) (fun _ w' => w' = w) (fun i => i) 0 (by decide) ?_ ?_ ?_
  · simp (disch := omega) only [push_cast, ↓reduceIte, zA, zG, zB, zH, zI, zC, zJ, zK, zL, zD, zE, zF, zM, zN, zO, zP, zQ, reduceCtorEq, not_true_eq_false, not_false_eq_true]
  · rfl
  rintro i uu w1 hw
  obtain rfl := hw.symm
  repeat' (first | (simp (disch := omega) only [push_cast, ↓reduceIte, zA, zG, zB, zH, zI, zC, zJ, zK, zL, zD, zE, zF, zM, zN, zO, zP, zQ, reduceCtorEq, not_true_eq_false, not_false_eq_true]) | (first | refine vIfE_of ?_ ?_ | refine vIfD_of ?_ ?_ | refine vIfQ_of ?_ ?_ | refine vIfV_of ?_ ?_) <;> intro _ | refine And.intro (by omega) ?_ | refine drawn_q ?_ | fail)
  all_goals rfl
/-- Rows sorted, whether there are any or not. -/
theorem sortAny_c (B : Nat) (v : Value) (es : List El) (w : World) (ho : OwnE w B v es) (hE : ∀ e ∈ es, EO w B e) (hl : es.length ≤ 1000000) : FnC Try.prog 70 #[v, cmpV] w fun r w' =>
    ∃ l', Srt elt l' ∧ Stb elt es l' ∧ RecS elC 4 w' v l' ∧ (∀ e ∈ l', EO w' B e) ∧ ∀ w0, Later w0 w → w0.heap.size ≤ B → Later w0 w' := by
  obtain ⟨o, c, rfl, _⟩ := RecS.slice (OwnR.s ho)
  cases o with
  | none =>
    obtain ⟨hn, hc0⟩ := (SlN.len (OwnR.s ho)).2.2.2.2 rfl
    have hn : es = [] := List.length_eq_zero_iff.1 hn
    subst hn
    have hc0 : c = 0 := hc0
    subst hc0
    refine enter70 _ _ ?_
    unfold B70
    simp only [List.length_nil]
    repeat' (first | (simp (disch := omega) only [push_cast, ↓reduceIte, zA, zG, zB, zH, zI, zC, zJ, zK, zL, zD, zE, zF, zM, zN, zO, zP, zQ, reduceCtorEq, not_true_eq_false, not_false_eq_true]) | (first | refine vIfE_of ?_ ?_ | refine vIfD_of ?_ ?_ | refine vIfQ_of ?_ ?_ | refine vIfV_of ?_ ?_) <;> intro _ | refine And.intro (by omega) ?_ | refine drawn_q ?_ | fail)
    refine (stable0_c w).mono ?_
    rintro _ w1 hw
    obtain rfl := hw.symm
    repeat' (first | (simp (disch := omega) only [push_cast, ↓reduceIte, zA, zG, zB, zH, zI, zC, zJ, zK, zL, zD, zE, zF, zM, zN, zO, zP, zQ, reduceCtorEq, not_true_eq_false, not_false_eq_true]) | (first | refine vIfE_of ?_ ?_ | refine vIfD_of ?_ ?_ | refine vIfQ_of ?_ ?_ | refine vIfV_of ?_ ?_) <;> intro _ | refine And.intro (by omega) ?_ | refine drawn_q ?_ | fail)
    exact ⟨[], srt_nil, Stb.refl _, RecS.nil _, by simp, fun w0 h _ => h⟩
  | some a =>
    obtain ⟨g, rfl, hB, _, ⟨cs, hb⟩, _⟩ := own_writes ho
    refine (sortStable_c B B g c es es w ⟨ho, hE, fun _ h => h, hl⟩).mono ?_
    rintro _ w1 ⟨l', s1, s2, s3, s4⟩
    have hl' := s2.1
    refine ⟨l', s1, s2, ?_, fun e he => s3.els e (s3.sub e he), fun w0 h hw0 => Chg.later h s4 (by intro j hj; rw [List.mem_singleton.1 hj]; omega)⟩
    rw [← hl']
    exact OwnR.s s3.own
set_option maxHeartbeats 1000000 in
theorem rfold_c (D A : Nat) (v : Value) (l : List El) (w : World) (h : RecS elC 4 w v l) (hes : ∀ e ∈ l, EIs w e ∧ Gd D A e.abs) (hl : l.length ≤ 100000) : FnC Try.prog 31 #[v] w fun r w' =>
    ∃ vv e, r = .tuple #[vv, .int .i64 e] ∧ FoldR D A w' w.heap.size vv e (l.map El.abs) ∧ Later w w' := by
  refine enter31 _ ?_
  unfold B31
  repeat' (first | (simp (disch := omega) only [push_cast, ↓reduceIte, zA, zG, zB, zH, zI, zC, zJ, zK, zL, zD, zE, zF, zM, zN, zO, zP, zQ, reduceCtorEq, not_true_eq_false, not_false_eq_true]) | (first | refine vIfE_of ?_ ?_ | refine vIfD_of ?_ ?_ | refine vIfQ_of ?_ ?_ | refine vIfV_of ?_ ?_) <;> intro _ | refine And.intro (by omega) ?_ | refine drawn_q ?_ | fail)
  refine (copy_c v l w h (fun e he => ⟨(hes e he).1, by have := (hes e he).2.rr.1.dl; omega, by have := (hes e he).2.rr.1.al; omega⟩) hl).mono ?_
  rintro cv w1 ⟨⟨es, ho, hab, hE⟩, l1⟩
  have hel : es.length = l.length := by have := congrArg List.length hab; simpa using this
  repeat' (first | (simp (disch := omega) only [push_cast, ↓reduceIte, zA, zG, zB, zH, zI, zC, zJ, zK, zL, zD, zE, zF, zM, zN, zO, zP, zQ, reduceCtorEq, not_true_eq_false, not_false_eq_true]) | (first | refine vIfE_of ?_ ?_ | refine vIfD_of ?_ ?_ | refine vIfQ_of ?_ ?_ | refine vIfV_of ?_ ?_) <;> intro _ | refine And.intro (by omega) ?_ | refine drawn_q ?_ | fail)
  refine (sortAny_c w.heap.size cv es w1 ho hE (by omega)).mono ?_
  rintro _ w2 ⟨l', sL, tL, rL, eL, hlat⟩
  have l02 := hlat w l1 (Nat.le_refl _)
  have hl' := tL.1
  have hst : Stb rlt (l.map El.abs) (l'.map El.abs) := by rw [← hab]; exact stb_abs tL
  have gL : ∀ e ∈ l', Gd D A e.abs := by
    intro e he
    have : e.abs ∈ l.map El.abs := (hst.mem rlt_swo _).1 (List.mem_map_of_mem he)
    obtain ⟨e0, h0, h1⟩ := List.mem_map.1 this
    rw [← h1]; exact (hes e0 h0).2
  obtain ⟨o, c, hcv, _⟩ := RecS.slice (OwnR.s ho)
  have rL' := rL
  rw [hcv, ← hl'] at rL'
  rw [hcv, ← hl']
  clear ho hE hcv rL
  repeat' (first | (simp (disch := omega) only [push_cast, ↓reduceIte, zA, zG, zB, zH, zI, zC, zJ, zK, zL, zD, zE, zF, zM, zN, zO, zP, zQ, reduceCtorEq, not_true_eq_false, not_false_eq_true]) | (first | refine vIfE_of ?_ ?_ | refine vIfD_of ?_ ?_ | refine vIfQ_of ?_ ?_ | refine vIfV_of ?_ ?_) <;> intro _ | refine And.intro (by omega) ?_ | refine drawn_q ?_ | fail)
  refine vc_loop W31_0 (fun p : Nat × Value => [(4, p.2), (16, .int .i64 (p.1 : Int))])
    (fun p w' => p.1 ≤ l'.length ∧ Later w2 w' ∧ ∃ os, OwnE w' w2.heap.size p.2 os ∧ os.length ≤ p.1 ∧ F ((l'.take p.1).map El.abs) (os.map El.abs) ∧ ∀ z ∈ os, EO w' w.heap.size z ∧ Gd D A z.abs) (fun p => l'.length - p.1) (0, .slice none 0 0) (by decide) ?_ ?_ ?_
  · simp (disch := omega) only [push_cast, ↓reduceIte, zA, zG, zB, zH, zI, zC, zJ, zK, zL, zD, zE, zF, zM, zN, zO, zP, zQ, reduceCtorEq, not_true_eq_false, not_false_eq_true]
  · exact ⟨by omega, Later.refl _, [], OwnR.nil _ _ _, by simp, F.start, by simp⟩
  rintro ⟨i, ov⟩ uu w3 ⟨hi, l3, os, hO, hosl, hF, hZ⟩
  dsimp only at hi hO hF hosl
  have l03 := l02.trans l3
  by_cases hlt : i < l'.length
  · obtain ⟨aa, rfl, f1⟩ := RecS.at elC_len (rL'.later l3) hlt
    have hEr := (eL l'[i] (List.getElem_mem _)).later l3
    have hGr := gL l'[i] (List.getElem_mem _)
    have htk : (l'.take (i + 1)).map El.abs = (l'.take i).map El.abs ++ [l'[i].abs] := by rw [take_snoc l' i hlt, List.map_append]; rfl
    have hord : ∀ y ∈ l'.take i, elt l'[i] y = false := by
      intro y hy
      obtain ⟨j, hj, rfl⟩ := List.getElem_of_mem hy
      rw [List.length_take] at hj
      rw [List.getElem_take]
      exact List.pairwise_iff_getElem.1 sL j i (by omega) hlt (by omega)
    have hbad : Bad ((l'.take (i + 1)).map El.abs) → Bad (l.map El.abs) := by
      intro hb
      have := hb.more ((l'.drop (i + 1)).map El.abs)
      rw [← List.map_append, List.take_append_drop] at this
      exact (Res.stb hst).1 this
    generalize hr : l'[i] = r at *
    obtain ⟨oo, oc, hov, hoc, _⟩ := RecS.slice (OwnR.s hO)
    subst hov
    repeat' (first | (simp (disch := omega) only [push_cast, ↓reduceIte, zA, zG, zB, zH, zI, zC, zJ, zK, zL, zD, zE, zF, zM, zN, zO, zP, zQ, reduceCtorEq, not_true_eq_false, not_false_eq_true, f1]) | (first | refine vIfE_of ?_ ?_ | refine vIfD_of ?_ ?_ | refine vIfQ_of ?_ ?_ | refine vIfV_of ?_ ?_) <;> intro _ | refine And.intro (by omega) ?_ | refine drawn_q ?_ | fail)
    refine vStore_new rfl rfl (by simpa using elC_one hEr.is) ?_
    have l4 := later_alloc w3 (.cells (elC r).toArray 35)
    have B4 := Blk.new w3 (elC r).toArray 35
    generalize w3.alloc (.cells (elC r).toArray 35) = w4 at *
    generalize w3.heap.size = k4 at *
    have f4 : cellsAt w4 ⟨k4, 0, none⟩ 4 = some (elC r) := Blk.cellsAt (l := elC r) B4
    have f4' : cellsAt w4 ⟨k4, 0, none⟩ 4 = some [.int .i64 r.t, r.dv, .int .i64 r.n, r.av] := f4
    have hle : ∀ q ∈ os, rlt r.abs q.abs = false := by
      intro q hq
      obtain ⟨y, hy, hs⟩ := hF.mem (List.mem_map_of_mem hq)
      obtain ⟨y0, hy0, rfl⟩ := List.mem_map.1 hy
      rw [rlt_r hs]
      exact hord y0 hy0
    rcases List.eq_nil_or_concat os with hn | ⟨T, z, hn⟩
    · subst hn
      simp only [List.length_nil]
      repeat' (first | (simp (disch := omega) only [push_cast, ↓reduceIte, zA, zG, zB, zH, zI, zC, zJ, zK, zL, zD, zE, zF, zM, zN, zO, zP, zQ, reduceCtorEq, not_true_eq_false, not_false_eq_true]) | (first | refine vIfE_of ?_ ?_ | refine vIfD_of ?_ ?_ | refine vIfQ_of ?_ ?_ | refine vIfV_of ?_ ?_) <;> intro _ | refine And.intro (by omega) ?_ | refine drawn_q ?_ | fail)
      intro w5 l5
      have f5 := cellsAt_later l5 4 f4'
      repeat' (first | (simp (disch := omega) only [push_cast, ↓reduceIte, zA, zG, zB, zH, zI, zC, zJ, zK, zL, zD, zE, zF, zM, zN, zO, zP, zQ, reduceCtorEq, not_true_eq_false, not_false_eq_true, f5]) | (first | refine vIfE_of ?_ ?_ | refine vIfD_of ?_ ?_ | refine vIfQ_of ?_ ?_ | refine vIfV_of ?_ ?_) <;> intro _ | refine And.intro (by omega) ?_ | refine drawn_q ?_ | fail)
      have la := later_alloc w5 (.cells #[.int .i64 r.t, r.dv, .int .i64 r.n, r.av] 35)
      have Bl := Blk.new w5 #[.int .i64 r.t, r.dv, .int .i64 r.n, r.av] 35
      have l45 := (l4.trans l5).trans la
      have hO5 := hO.later l45
      have hE5 := hEr.later l45
      refine vAppend_e (r := [r]) hO5 (RecS.lit1 (elC_len r) Bl) (by intro q hq; rw [List.mem_singleton.1 hq]; exact hE5.is) (by simp only [List.length_append, List.length_cons, List.length_nil] at *; omega) (Nat.le_trans l3.size l45.size) ?_
      intro v' w6 ho6 hg _
      have l26 := (l3.trans l45).appended hO5 (Nat.le_refl _) hg
      have hF6 : F ((l'.take (i + 1)).map El.abs) ((([] : List El) ++ [r]).map El.abs) := by
        rw [htk, List.map_append, List.map_singleton]
        exact F.add (A := ([] : List El).map El.abs) (B := []) (by simpa using hF) (by simp) (by simp)
      have hZ6 : ∀ q ∈ ([] : List El) ++ [r], EO w6 w.heap.size q ∧ Gd D A q.abs := by
        intro q hq
        rcases List.mem_append.1 hq with hq | hq
        · exact ⟨((hZ q hq).1.later l45).grown hO5 hg, (hZ q hq).2⟩
        · rw [List.mem_singleton.1 hq]; exact ⟨hE5.grown hO5 hg, hGr⟩
      repeat' (first | (simp (disch := omega) only [push_cast, ↓reduceIte, zA, zG, zB, zH, zI, zC, zJ, zK, zL, zD, zE, zF, zM, zN, zO, zP, zQ, reduceCtorEq, not_true_eq_false, not_false_eq_true]) | (first | refine vIfE_of ?_ ?_ | refine vIfD_of ?_ ?_ | refine vIfQ_of ?_ ?_ | refine vIfV_of ?_ ?_) <;> intro _ | refine And.intro (by omega) ?_ | refine drawn_q ?_ | fail)
      exact ⟨rfl, (i + 1, v'), by simp (disch := omega) only [push_cast, ↓reduceIte, zA, zG, zB, zH, zI, zC, zJ, zK, zL, zD, zE, zF, zM, zN, zO, zP, zQ, reduceCtorEq, not_true_eq_false, not_false_eq_true], ⟨by dsimp only; omega, l26, ([] : List El) ++ [r], ho6, by dsimp only; simp only [List.length_append, List.length_cons, List.length_nil] at *; omega, hF6, hZ6⟩, by dsimp only; omega⟩
    · have hn : os = T ++ [z] := by simpa using hn
      subst hn
      obtain ⟨ab, rfl, fz⟩ := RecS.at elC_len (OwnR.s (hO.later l4)) (i := T.length) (by simp)
      have ez : (T ++ [z])[T.length]'(by simp) = z := by simp
      rw [ez] at fz
      have e1 : (((T ++ [z]).length : Int) - 1).toNat = T.length := by simp
      have e2 : ((T ++ [z]).length : Int) = (T.length : Int) + 1 := by simp
      have hTn : (T ++ [z]).length = T.length + 1 := by simp
      obtain ⟨hEz, hGz⟩ := hZ z (by simp)
      have hcond : ecmp z r ≠ 0 → ∀ q ∈ (T ++ [z]).map El.abs, rlt q r.abs = true := by
        intro hc
        have hz : rlt z.abs r.abs = true := by
          have h1 := hle z (by simp)
          have hk := ckey_is z.t z.d r.t r.d
          have h2 : ¬ ckey r.t r.d z.t z.d < 0 := of_decide_eq_false h1
          rcases hk with ⟨k1, k2, _⟩ | ⟨k1, _⟩ | ⟨k1, k2, _⟩
          · show decide (ckey z.t z.d r.t r.d < 0) = true
            rw [k1]; rfl
          · exact absurd k1 hc
          · rw [k2] at h2; exact absurd (by decide) h2
        intro q hq
        rw [List.map_append] at hq
        rcases List.mem_append.1 hq with hq | hq
        · have hs := hF.srt
          rw [List.map_append, List.pairwise_append] at hs
          exact rlt_swo.lt_le (hs.2.2 q hq z.abs (by simp)) (hle z (by simp))
        · simp only [List.map_singleton, List.mem_singleton] at hq
          rw [hq]; exact hz
      rw [hTn] at hosl
      have e3 : ((T.length + 1 : Nat) : Int) - 1 = (T.length : Int) := by omega
      have e4 : (T.length : Int) + 1 - 1 = (T.length : Int) := by omega
      rw [hTn]
      repeat' (first | (simp (disch := omega) only [push_cast, ↓reduceIte, zA, zG, zB, zH, zI, zC, zJ, zK, zL, zD, zE, zF, zM, zN, zO, zP, zQ, reduceCtorEq, not_true_eq_false, not_false_eq_true, e4, fz, f4]) | (first | refine vIfE_of ?_ ?_ | refine vIfD_of ?_ ?_ | refine vIfQ_of ?_ ?_ | refine vIfV_of ?_ ?_) <;> intro _ | refine And.intro (by omega) ?_ | refine drawn_q ?_ | fail)
      refine QFn.of hb34 (v := .int .i64 (ecmp z r)) (fun w' hl => rcompare_c z r w' ((hEz.later l4).is.later hl) ((hEr.later l4).is.later hl)) ?_
      by_cases hc : ecmp z r = 0
      · obtain ⟨rz, dz, az⟩ := hGz.rr
        obtain ⟨rr, dr, ar⟩ := hGr.rr
        repeat' (first | (simp (disch := omega) only [push_cast, ↓reduceIte, zA, zG, zB, zH, zI, zC, zJ, zK, zL, zD, zE, zF, zM, zN, zO, zP, zQ, reduceCtorEq, not_true_eq_false, not_false_eq_true]) | (first | refine vIfE_of ?_ ?_ | refine vIfD_of ?_ ?_ | refine vIfQ_of ?_ ?_ | refine vIfV_of ?_ ?_) <;> intro _ | refine And.intro (by omega) ?_ | refine drawn_q ?_ | fail)
        intro w5 l5
        have fz5 := cellsAt_later l5 4 fz
        have f5 := cellsAt_later l5 4 f4
        have l45 := l4.trans l5
        have hz5 := (hEz.later l45).is
        have hr5 := (hEr.later l45).is
        have hsz5 : w.heap.size ≤ w5.heap.size := (l03.trans l45).size
        repeat' (first | (simp (disch := omega) only [push_cast, ↓reduceIte, zA, zG, zB, zH, zI, zC, zJ, zK, zL, zD, zE, zF, zM, zN, zO, zP, zQ, reduceCtorEq, not_true_eq_false, not_false_eq_true]) | (first | refine vIfE_of ?_ ?_ | refine vIfD_of ?_ ?_ | refine vIfQ_of ?_ ?_ | refine vIfV_of ?_ ?_) <;> intro _ | refine And.intro (by omega) ?_ | fail)
        refine drawnS_k 11 ?_
        repeat' (first | (simp (disch := omega) only [push_cast, ↓reduceIte, zA, zG, zB, zH, zI, zC, zJ, zK, zL, zD, zE, zF, zM, zN, zO, zP, zQ, reduceCtorEq, not_true_eq_false, not_false_eq_true, e4, fz5, f5]) | (first | refine vIfE_of ?_ ?_ | refine vIfD_of ?_ ?_ | refine vIfQ_of ?_ ?_ | refine vIfV_of ?_ ?_) <;> intro _ | refine And.intro (by omega) ?_ | fail)
        refine NFn.of hb35 (JV w.heap.size z r) (stb_jv _ _ _ _) (fun w' hl => (rjoin_c z r w' (hz5.later hl) (hr5.later hl) rz rr (by omega)).mono ?_) ?_
        · rintro v w'' ⟨q, e, rfl, hj, hE, hl'⟩
          exact ⟨⟨q, e, rfl, hj, hE.base (Nat.le_trans hsz5 hl.size)⟩, hl'⟩
        repeat' (first | (simp (disch := omega) only [push_cast, ↓reduceIte, zA, zG, zB, zH, zI, zC, zJ, zK, zL, zD, zE, zF, zM, zN, zO, zP, zQ, reduceCtorEq, not_true_eq_false, not_false_eq_true]) | (first | refine vIfE_of ?_ ?_ | refine vIfD_of ?_ ?_ | refine vIfQ_of ?_ ?_ | refine vIfV_of ?_ ?_) <;> intro _ | refine And.intro (by omega) ?_ | fail)
        refine nR_move (t := 45) (by simp) rfl (stb_jv _ _ _ _) ?_
        repeat' (first | (simp (disch := omega) only [push_cast, ↓reduceIte, zA, zG, zB, zH, zI, zC, zJ, zK, zL, zD, zE, zF, zM, zN, zO, zP, zQ, reduceCtorEq, not_true_eq_false, not_false_eq_true]) | (first | refine vIfE_of ?_ ?_ | refine vIfD_of ?_ ?_ | refine vIfQ_of ?_ ?_ | refine vIfV_of ?_ ?_) <;> intro _ | refine And.intro (by omega) ?_ | fail)
        refine nR_ext (t := 38) (V := JV w.heap.size z r) (V' := JE w.heap.size z r) (by simp) rfl (stb_je _ _ _ _) (fun v w' hv => ?_) ?_
        · obtain ⟨q, e, rfl, hj, hE⟩ := hv
          exact ⟨_, rfl, elV q, rfl, q, e, rfl, hj, hE⟩
        repeat' (first | (simp (disch := omega) only [push_cast, ↓reduceIte, zA, zG, zB, zH, zI, zC, zJ, zK, zL, zD, zE, zF, zM, zN, zO, zP, zQ, reduceCtorEq, not_true_eq_false, not_false_eq_true]) | (first | refine vIfE_of ?_ ?_ | refine vIfD_of ?_ ?_ | refine vIfQ_of ?_ ?_ | refine vIfV_of ?_ ?_) <;> intro _ | refine And.intro (by omega) ?_ | fail)
        refine nR_extc (t := 38) (V := JV w.heap.size z r) (u := .int .i64 (eJ z r)) (by simp) rfl (fun v w' hv => ?_) ?_
        · obtain ⟨q, e, rfl, hj, hE⟩ := hv
          exact ⟨_, rfl, by rw [eJ_is hc hj]; rfl⟩
        repeat' (first | (simp (disch := omega) only [push_cast, ↓reduceIte, zA, zG, zB, zH, zI, zC, zJ, zK, zL, zD, zE, zF, zM, zN, zO, zP, zQ, reduceCtorEq, not_true_eq_false, not_false_eq_true]) | (first | refine vIfE_of ?_ ?_ | refine vIfD_of ?_ ?_ | refine vIfQ_of ?_ ?_ | refine vIfV_of ?_ ?_) <;> intro _ | refine And.intro (by omega) ?_ | fail)
        refine nA_of _ (PtV w5 35 #[.int .i64 0, .slice none 0 0, .int .i64 0, .slice none 0 0]) (stb_pt _ _ _ _) (fun w' hl => ?_) ?_
        · repeat' (first | (simp (disch := omega) only [push_cast, ↓reduceIte, zA, zG, zB, zH, zI, zC, zJ, zK, zL, zD, zE, zF, zM, zN, zO, zP, zQ, reduceCtorEq, not_true_eq_false, not_false_eq_true]) | (first | refine vIfE_of ?_ ?_ | refine vIfD_of ?_ ?_ | refine vIfQ_of ?_ ?_ | refine vIfV_of ?_ ?_) <;> intro _ | refine And.intro (by omega) ?_ | fail)
          exact ⟨later_alloc _ _, w'.heap.size, rfl, hl.size, Blk.new _ _ _⟩
        repeat' (first | (simp (disch := omega) only [push_cast, ↓reduceIte, zA, zG, zB, zH, zI, zC, zJ, zK, zL, zD, zE, zF, zM, zN, zO, zP, zQ, reduceCtorEq, not_true_eq_false, not_false_eq_true]) | (first | refine vIfE_of ?_ ?_ | refine vIfD_of ?_ ?_ | refine vIfQ_of ?_ ?_ | refine vIfV_of ?_ ?_) <;> intro _ | refine And.intro (by omega) ?_ | fail)
        refine ⟨rfl, fun w6 l6 => ?_⟩
        rintro _ ⟨b8, rfl, hb8, B8⟩ _ ⟨q, e, rfl, hj, hq⟩ _ ⟨q2, e2, rfl, hj2, _⟩ _ _
        have ee2 : eJ z r = e2 := eJ_is hc hj2
        have ee : eJ z r = e := eJ_is hc hj
        refine ⟨by simp (disch := omega) only [push_cast, ↓reduceIte, zA, zG, zB, zH, zI, zC, zJ, zK, zL, zD, zE, zF, zM, zN, zO, zP, zQ, reduceCtorEq, not_true_eq_false, not_false_eq_true, ee2, implies_true, and_self], ?_⟩
        unfold elV
        repeat' (first | (simp (disch := omega) only [push_cast, ↓reduceIte, zA, zG, zB, zH, zI, zC, zJ, zK, zL, zD, zE, zF, zM, zN, zO, zP, zQ, reduceCtorEq, not_true_eq_false, not_false_eq_true]) | (first | refine vIfE_of ?_ ?_ | refine vIfD_of ?_ ?_ | refine vIfQ_of ?_ ?_ | refine vIfV_of ?_ ?_) <;> intro _ | refine And.intro (by omega) ?_ | fail)
        refine vStore_blk (l := [.int .i64 0, .slice none 0 0, .int .i64 0, .slice none 0 0]) (xs := elC q) B8 rfl rfl (elC_one hq.is) ?_
        intro w7 B7 c7
        have l57 := Chg.later l6 c7 (by intro j hj; rw [List.mem_singleton.1 hj]; exact hb8)
        have hq7 := hq.chg B8 c7
        have l37 := l45.trans l57
        have hsame : Same z.abs r.abs := cmp_zero.1 hc
        have hjoin := F.join (l := (l'.take i).map El.abs) (A := T.map El.abs) (B := []) (b := z.abs) (by rw [List.map_append] at hF; exact hF) hsame
        rw [← htk] at hjoin
        rcases hj with ⟨h1, _⟩ | ⟨_, h2, h3, _⟩ | ⟨_, h2, h3⟩
        · exact absurd hc h1
        · rw [ee, h3]
          repeat' (first | (simp (disch := omega) only [push_cast, ↓reduceIte, zA, zG, zB, zH, zI, zC, zJ, zK, zL, zD, zE, zF, zM, zN, zO, zP, zQ, reduceCtorEq, not_true_eq_false, not_false_eq_true]) | (first | refine vIfE_of ?_ ?_ | refine vIfD_of ?_ ?_ | refine vIfQ_of ?_ ?_ | refine vIfV_of ?_ ?_) <;> intro _ | refine And.intro (by omega) ?_ | refine drawn_q ?_ | fail)
          exact ⟨.slice none 0 0, 121, rfl, .inl ⟨rfl, rfl, hbad (hjoin.1 h2)⟩, l03.trans l37⟩
        · rw [ee, h2]
          have f7 : cellsAt w7 ⟨b8, 0, none⟩ 4 = some (elC q) := Blk.cellsAt (l := elC q) B7
          have hO7 := hO.later l37
          rw [hTn] at hO7
          obtain ⟨g, rfl, hB, ⟨cs, hb⟩, hcan, ho8, hc8⟩ := OwnR.set elC_len hO7 (i := T.length) (by simp) q
          rw [addr_add_eq, Nat.zero_add] at hcan ho8 hc8
          repeat' (first | (simp (disch := omega) only [push_cast, ↓reduceIte, zA, zG, zB, zH, zI, zC, zJ, zK, zL, zD, zE, zF, zM, zN, zO, zP, zQ, reduceCtorEq, not_true_eq_false, not_false_eq_true, e4, f7, addr_add_eq, Nat.zero_add]) | (first | refine vIfE_of ?_ ?_ | refine vIfD_of ?_ ?_ | refine vIfQ_of ?_ ?_ | refine vIfV_of ?_ ?_) <;> intro _ | refine And.intro (by omega) ?_ | refine drawn_q ?_ | fail)
          refine ⟨rfl, by simpa [Value.cells] using elC_one hq7.is, by simpa [Value.cells] using hcan, ?_⟩
          have ex : (Value.agg (elC q).toArray).cells.toList = elC q := by simp [Value.cells]
          rw [ex]
          have hset : (T ++ [z]).set T.length q = T ++ [q] := by simp
          rw [hset] at ho8
          generalize storeAll w7 ⟨g, T.length * 4, none⟩ (elC q) = w8 at *
          have hF8 := hjoin.2 q.abs h3
          repeat' (first | (simp (disch := omega) only [push_cast, ↓reduceIte, zA, zG, zB, zH, zI, zC, zJ, zK, zL, zD, zE, zF, zM, zN, zO, zP, zQ, reduceCtorEq, not_true_eq_false, not_false_eq_true]) | (first | refine vIfE_of ?_ ?_ | refine vIfD_of ?_ ?_ | refine vIfQ_of ?_ ?_ | refine vIfV_of ?_ ?_) <;> intro _ | refine And.intro (by omega) ?_ | refine drawn_q ?_ | fail)
          refine ⟨rfl, (i + 1, .slice (some ⟨g, 0, none⟩) (T.length + 1) oc), by simp (disch := omega) only [push_cast, ↓reduceIte, zA, zG, zB, zH, zI, zC, zJ, zK, zL, zD, zE, zF, zM, zN, zO, zP, zQ, reduceCtorEq, not_true_eq_false, not_false_eq_true], ⟨by dsimp only; omega, Chg.later (l3.trans l37) hc8 (by intro j hj; rw [List.mem_singleton.1 hj]; exact hB), T ++ [q], ho8, by dsimp only; simp; omega, by simpa using hF8, fun y hy => ?_⟩, by dsimp only; omega⟩
          rcases List.mem_append.1 hy with hy | hy
          · exact ⟨((hZ y (by simp [hy])).1.later l37).chg hb hc8, (hZ y (by simp [hy])).2⟩
          · rw [List.mem_singleton.1 hy]
            exact ⟨hq7.chg hb hc8, hGz.join hGr h3⟩
      · repeat' (first | (simp (disch := omega) only [push_cast, ↓reduceIte, zA, zG, zB, zH, zI, zC, zJ, zK, zL, zD, zE, zF, zM, zN, zO, zP, zQ, reduceCtorEq, not_true_eq_false, not_false_eq_true]) | (first | refine vIfE_of ?_ ?_ | refine vIfD_of ?_ ?_ | refine vIfQ_of ?_ ?_ | refine vIfV_of ?_ ?_) <;> intro _ | refine And.intro (by omega) ?_ | refine drawn_q ?_ | fail)
        intro w5 l5
        have f5 := cellsAt_later l5 4 f4'
        repeat' (first | (simp (disch := omega) only [push_cast, ↓reduceIte, zA, zG, zB, zH, zI, zC, zJ, zK, zL, zD, zE, zF, zM, zN, zO, zP, zQ, reduceCtorEq, not_true_eq_false, not_false_eq_true, f5]) | (first | refine vIfE_of ?_ ?_ | refine vIfD_of ?_ ?_ | refine vIfQ_of ?_ ?_ | refine vIfV_of ?_ ?_) <;> intro _ | refine And.intro (by omega) ?_ | refine drawn_q ?_ | fail)
        have la := later_alloc w5 (.cells #[.int .i64 r.t, r.dv, .int .i64 r.n, r.av] 35)
        have Bl := Blk.new w5 #[.int .i64 r.t, r.dv, .int .i64 r.n, r.av] 35
        have l45 := (l4.trans l5).trans la
        have hO5 := hO.later l45
        rw [hTn] at hO5
        have hE5 := hEr.later l45
        refine vAppend_e (r := [r]) hO5 (RecS.lit1 (elC_len r) Bl) (by intro q hq; rw [List.mem_singleton.1 hq]; exact hE5.is) (by simp only [List.length_append, List.length_cons, List.length_nil] at *; omega) (Nat.le_trans l3.size l45.size) ?_
        intro v' w6 ho6 hg _
        have l26 := (l3.trans l45).appended hO5 (Nat.le_refl _) hg
        have hF6 : F ((l'.take (i + 1)).map El.abs) (((T ++ [z]) ++ [r]).map El.abs) := by
          rw [htk, List.map_append, List.map_singleton]
          exact F.add (A := (T ++ [z]).map El.abs) (B := []) (by simpa using hF) (hcond hc) (by simp)
        have hZ6 : ∀ q ∈ (T ++ [z]) ++ [r], EO w6 w.heap.size q ∧ Gd D A q.abs := by
          intro q hq
          rcases List.mem_append.1 hq with hq | hq
          · exact ⟨((hZ q hq).1.later l45).grown hO5 hg, (hZ q hq).2⟩
          · rw [List.mem_singleton.1 hq]; exact ⟨hE5.grown hO5 hg, hGr⟩
        repeat' (first | (simp (disch := omega) only [push_cast, ↓reduceIte, zA, zG, zB, zH, zI, zC, zJ, zK, zL, zD, zE, zF, zM, zN, zO, zP, zQ, reduceCtorEq, not_true_eq_false, not_false_eq_true]) | (first | refine vIfE_of ?_ ?_ | refine vIfD_of ?_ ?_ | refine vIfQ_of ?_ ?_ | refine vIfV_of ?_ ?_) <;> intro _ | refine And.intro (by omega) ?_ | refine drawn_q ?_ | fail)
        exact ⟨rfl, (i + 1, v'), by simp (disch := omega) only [push_cast, ↓reduceIte, zA, zG, zB, zH, zI, zC, zJ, zK, zL, zD, zE, zF, zM, zN, zO, zP, zQ, reduceCtorEq, not_true_eq_false, not_false_eq_true], ⟨by dsimp only; omega, l26, (T ++ [z]) ++ [r], ho6, by dsimp only; simp only [List.length_append, List.length_cons, List.length_nil] at *; omega, hF6, hZ6⟩, by dsimp only; omega⟩
  · have e : i = l'.length := by omega
    subst e
    rw [List.take_length] at hF
    have hf : FoldR D A w3 w.heap.size ov 0 (l.map El.abs) := .inr ⟨rfl, os, hO.base l02.size, (Res.stb hst).2 _ hF, hZ⟩
    repeat' (first | (simp (disch := omega) only [push_cast, ↓reduceIte, zA, zG, zB, zH, zI, zC, zJ, zK, zL, zD, zE, zF, zM, zN, zO, zP, zQ, reduceCtorEq, not_true_eq_false, not_false_eq_true]) | (first | refine vIfE_of ?_ ?_ | refine vIfD_of ?_ ?_ | refine vIfQ_of ?_ ?_ | refine vIfV_of ?_ ?_) <;> intro _ | refine And.intro (by omega) ?_ | refine drawn_q ?_ | fail)
    exact ⟨_, _, rfl, hf, l03⟩
end Go.Proofs.Ythihbgpaoldbjaa
end
section
set_option linter.unusedSimpArgs false
namespace Go.Vc
variable {α : Type} {enc : α → List Value} {k : Nat}
end Go.Vc
namespace Go.Proofs.Ythihbgpaoldbjaa
open Go.Vc Go.Key Go.Stab Go.Fold
set_option maxRecDepth 100000
end Go.Proofs.Ythihbgpaoldbjaa
end
section
set_option linter.unusedSimpArgs false
namespace Go.Proofs.Ythihbgpaoldbjaa
open Go.Vc Go.Key Go.Stab
set_option maxRecDepth 100000
theorem one_c (x y : El) (w : World) (hx : EIs w x) (hy : EIs w y) : FnC Try.prog 29 #[elV x, elV y] w fun r w' => r = .bool (decide (ecmp x y = 0 ∧ x.a = y.a ∧ x.n = y.n)) ∧ Later w w' := by
  unfold elV
  refine enter29 _ _ ?_
  unfold B29
  have eca : (Value.agg #[.int .i64 x.t, x.dv, .int .i64 x.n, x.av]).cells = #[.int .i64 x.t, x.dv, .int .i64 x.n, x.av] := rfl
  have ecb : (Value.agg #[.int .i64 y.t, y.dv, .int .i64 y.n, y.av]).cells = #[.int .i64 y.t, y.dv, .int .i64 y.n, y.av] := rfl
  have s1 : (w.alloc (.cells #[.int .i64 x.t, x.dv, .int .i64 x.n, x.av] 35)).heap.size = w.heap.size + 1 := World.size_alloc w _
  repeat' (first | (simp (disch := omega) only [push_cast, ↓reduceIte, zA, zG, zB, zH, zI, zC, zJ, zK, zL, zD, zE, zF, zM, zN, zO, zP, zQ, reduceCtorEq, not_true_eq_false, not_false_eq_true, eca, ecb, s1, addr_add_eq, Nat.zero_add]) | (first | refine vIfE_of ?_ ?_ | refine vIfD_of ?_ ?_ | refine vIfQ_of ?_ ?_ | refine vIfV_of ?_ ?_) <;> intro _ | refine And.intro (by omega) ?_ | fail)
  obtain ⟨l2, F, hs⟩ := boxes w x y hx hy
  generalize ((w.alloc (.cells #[.int .i64 x.t, x.dv, .int .i64 x.n, x.av] 35)).alloc (.cells #[.int .i64 y.t, y.dv, .int .i64 y.n, y.av] 35)) = w2 at *
  obtain ⟨hx2, hy2, _, _, _, _, _, _, a4, _, _, _, _, b4⟩ := F w2 (Later.refl _)
  repeat' (first | (simp (disch := omega) only [push_cast, ↓reduceIte, zA, zG, zB, zH, zI, zC, zJ, zK, zL, zD, zE, zF, zM, zN, zO, zP, zQ, reduceCtorEq, not_true_eq_false, not_false_eq_true, a4, b4, addr_add_eq, Nat.zero_add]) | (first | refine vIfE_of ?_ ?_ | refine vIfD_of ?_ ?_ | refine vIfQ_of ?_ ?_ | refine vIfV_of ?_ ?_) <;> intro _ | refine And.intro (by omega) ?_ | refine drawn_q ?_ | fail)
  refine (onekey_c x y w2 hx2 hy2).mono ?_
  rintro _ w3 ⟨rfl, l3⟩
  obtain ⟨hx3, hy3, _, _, _, _, _, a3, _, _, _, _, b3, _⟩ := F w3 l3
  repeat' (first | (simp (disch := omega) only [push_cast, ↓reduceIte, zA, zG, zB, zH, zI, zC, zJ, zK, zL, zD, zE, zF, zM, zN, zO, zP, zQ, reduceCtorEq, not_true_eq_false, not_false_eq_true, a3, b3, addr_add_eq, Nat.zero_add]) | (first | refine vIfE_of ?_ ?_ | refine vIfD_of ?_ ?_ | refine vIfQ_of ?_ ?_ | refine vIfV_of ?_ ?_) <;> intro _ | refine And.intro (by omega) ?_ | refine drawn_q ?_ | fail)
  refine (casame_c _ _ _ _ w3 hx3.2 hy3.2).mono ?_
  rintro _ w4 ⟨rfl, l4⟩
  obtain ⟨_, _, _, _, _, _, a2, _, _, _, _, b2, _, _⟩ := F w4 (l3.trans l4)
  have l04 := (l2.trans l3).trans l4
  by_cases h1 : ecmp x y = 0
  · rw [decide_eq_true h1]
    by_cases h2 : x.a = y.a
    · rw [decide_eq_true h2]
      by_cases h3 : x.n = y.n
      · have e : decide (ecmp x y = 0 ∧ x.a = y.a ∧ x.n = y.n) = true := decide_eq_true ⟨h1, h2, h3⟩
        rw [e]
        repeat' (first | (simp (disch := omega) only [push_cast, ↓reduceIte, zA, zG, zB, zH, zI, zC, zJ, zK, zL, zD, zE, zF, zM, zN, zO, zP, zQ, reduceCtorEq, not_true_eq_false, not_false_eq_true, a2, b2, h3, decide_true, addr_add_eq, Nat.zero_add]) | (first | refine vIfE_of ?_ ?_ | refine vIfD_of ?_ ?_ | refine vIfQ_of ?_ ?_ | refine vIfV_of ?_ ?_) <;> intro _ | refine And.intro (by omega) ?_ | refine drawn_q ?_ | fail)
        first | exact ⟨rfl, l04⟩ | exact l04
      · have e : decide (ecmp x y = 0 ∧ x.a = y.a ∧ x.n = y.n) = false := decide_eq_false fun h => h3 h.2.2
        rw [e]
        repeat' (first | (simp (disch := omega) only [push_cast, ↓reduceIte, zA, zG, zB, zH, zI, zC, zJ, zK, zL, zD, zE, zF, zM, zN, zO, zP, zQ, reduceCtorEq, not_true_eq_false, not_false_eq_true, a2, b2, addr_add_eq, Nat.zero_add]) | (first | refine vIfE_of ?_ ?_ | refine vIfD_of ?_ ?_ | refine vIfQ_of ?_ ?_ | refine vIfV_of ?_ ?_) <;> intro _ | refine And.intro (by omega) ?_ | refine drawn_q ?_ | fail)
        first | exact ⟨(by simp [h3]), l04⟩ | exact l04
    · have e : decide (ecmp x y = 0 ∧ x.a = y.a ∧ x.n = y.n) = false := decide_eq_false fun h => h2 h.2.1
      rw [decide_eq_false h2, e]
      repeat' (first | (simp (disch := omega) only [push_cast, ↓reduceIte, zA, zG, zB, zH, zI, zC, zJ, zK, zL, zD, zE, zF, zM, zN, zO, zP, zQ, reduceCtorEq, not_true_eq_false, not_false_eq_true, a2, b2, addr_add_eq, Nat.zero_add]) | (first | refine vIfE_of ?_ ?_ | refine vIfD_of ?_ ?_ | refine vIfQ_of ?_ ?_ | refine vIfV_of ?_ ?_) <;> intro _ | refine And.intro (by omega) ?_ | refine drawn_q ?_ | fail)
      first | exact ⟨rfl, l04⟩ | exact l04
  · have e : decide (ecmp x y = 0 ∧ x.a = y.a ∧ x.n = y.n) = false := decide_eq_false fun h => h1 h.1
    rw [decide_eq_false h1, e]
    repeat' (first | (simp (disch := omega) only [push_cast, ↓reduceIte, zA, zG, zB, zH, zI, zC, zJ, zK, zL, zD, zE, zF, zM, zN, zO, zP, zQ, reduceCtorEq, not_true_eq_false, not_false_eq_true, a2, b2, addr_add_eq, Nat.zero_add]) | (first | refine vIfE_of ?_ ?_ | refine vIfD_of ?_ ?_ | refine vIfQ_of ?_ ?_ | refine vIfV_of ?_ ?_) <;> intro _ | refine And.intro (by omega) ?_ | refine drawn_q ?_ | fail)
    first | exact ⟨rfl, l04⟩ | exact l04
end Go.Proofs.Ythihbgpaoldbjaa
end
section
set_option linter.unusedSimpArgs false
namespace Go.Proofs.Ythihbgpaoldbjaa
open Go.Vc Go.Key Go.Stab
set_option maxRecDepth 100000
theorem abs_iff (x y : El) : (ecmp x y = 0 ∧ x.a = y.a ∧ x.n = y.n) ↔ x.abs = y.abs := by
  have h := ckey_is x.t x.d y.t y.d
  unfold El.abs
  simp only [Prod.mk.injEq]
  constructor
  · rintro ⟨h1, h2, h3⟩
    have h1 : ckey x.t x.d y.t y.d = 0 := h1
    rcases h with h | h | h
    · omega
    · exact ⟨h.2.2.1, h.2.2.2, h3, h2⟩
    · omega
  · rintro ⟨h1, h2, h3, h4⟩
    rcases h with h | h | h
    · exact absurd ⟨h1, h2⟩ h.2.2
    · exact ⟨h.1, h4, h3⟩
    · exact absurd ⟨h1, h2⟩ h.2.2
theorem one_c' (x y : El) (w : World) (hx : EIs w x) (hy : EIs w y) : FnC Try.prog 29 #[elV x, elV y] w fun r w' => r = .bool (decide (x.abs = y.abs)) ∧ Later w w' := by
  refine (one_c x y w hx hy).mono ?_
  rintro _ w' ⟨rfl, h⟩
  exact ⟨by rw [decide_eq_decide.2 (abs_iff x y)], h⟩
end Go.Proofs.Ythihbgpaoldbjaa
end
section
set_option linter.unusedSimpArgs false
namespace Go.Proofs.Ythihbgpaoldbjaa
open Go.Vc Go.Key Go.Stab
set_option maxRecDepth 100000
end Go.Proofs.Ythihbgpaoldbjaa
end
section
set_option linter.unusedSimpArgs false
namespace Go.Vc
open Go.Op
theorem run_triple_eql {P : Program} {t : TypeId} {f0 f1 f2 : Field} (ht : P.underlying t = some (.struct #[f0, f1, f2])) (h0 : P.underlying f0.type = some (.int .i64)) (h1 : P.underlying f1.type = some (.int .i64)) (h2 : P.underlying f2.type = some (.int .i64)) (o0 : f0.offset = 0) (o1 : f1.offset = 1) (o2 : f2.offset = 2)
    (n0 : f0.name ≠ "_") (n1 : f1.name ≠ "_") (n2 : f2.name ≠ "_") (hp : P.stoodInHeld t = false) (hm : P.eqGuardType P.depth t = false) (x y : Operand) (a b c d e f : Int) (w : World) :
    (do eqGuard .eql t x y (.agg #[.int .i64 a, .int .i64 b, .int .i64 c]) (.agg #[.int .i64 d, .int .i64 e, .int .i64 f]); binOp .eql t (.agg #[.int .i64 a, .int .i64 b, .int .i64 c]) (.agg #[.int .i64 d, .int .i64 e, .int .i64 f])).run P w = .ok (.bool (decide ((a, b, c) = (d, e, f)))) w := by
  have hf : P.fieldsOf t = #[f0, f1, f2] := by unfold Program.fieldsOf; rw [ht]
  have hs : P.underlying t = some (.struct (P.fieldsOf t)) := by rw [hf]; exact ht
  have hd : (decide ((a, b, c) = (d, e, f))) = (a == d && (b == e && c == f)) := by
    rw [Bool.eq_iff_iff]; simp
  rw [hd]
  simp only [Sem.run_bind, run_eqGuard_agg w .eql t x y _ _ hm, Result.andThen_ok, run_eql_struct, run_equalIn_agg w 9999 t _ _ hs hp, hf]
  have i0 : ∀ w' : World, (isAgg f0.type).run P w' = .ok false w' := run_isAgg (by rw [h0]; rfl)
  have i1 : ∀ w' : World, (isAgg f1.type).run P w' = .ok false w' := run_isAgg (by rw [h1]; rfl)
  have i2 : ∀ w' : World, (isAgg f2.type).run P w' = .ok false w' := run_isAgg (by rw [h2]; rfl)
  by_cases e1 : a = d <;> by_cases e2 : b = e <;> by_cases e3 : c = f <;> simp [Op.eqFields, n0, n1, n2, part, i0, i1, i2, o0, o1, o2, run_equalIn_int _ _ _ _ _ _ _ h0, run_equalIn_int _ _ _ _ _ _ _ h1, run_equalIn_int _ _ _ _ _ _ _ h2, e1, e2, e3]
theorem vBin_agg3 {P : Program} {t : TypeId} {f0 f1 f2 : Field} (ht : P.underlying t = some (.struct #[f0, f1, f2])) (h0 : P.underlying f0.type = some (.int .i64)) (h1 : P.underlying f1.type = some (.int .i64)) (h2 : P.underlying f2.type = some (.int .i64)) (o0 : f0.offset = 0) (o1 : f1.offset = 1) (o2 : f2.offset = 2)
    (n0 : f0.name ≠ "_") (n1 : f1.name ≠ "_") (n2 : f2.name ≠ "_") (hp : P.stoodInHeld t = false) (hm : P.eqGuardType P.depth t = false) (x y : Operand) (a b c d e f : Int) {K : Value → World → Prop} {w : World} (hk : K (.bool (decide ((a, b, c) = (d, e, f)))) w) :
    vBin P .eql t x y (.agg #[.int .i64 a, .int .i64 b, .int .i64 c]) (.agg #[.int .i64 d, .int .i64 e, .int .i64 f]) K w := by
  show vcUp P K ((val (do eqGuard .eql t x y _ _; binOp .eql t _ _)).run P w)
  rw [run_val_pure (run_triple_eql ht h0 h1 h2 o0 o1 o2 n0 n1 n2 hp hm x y a b c d e f w)]
  exact hk
end Go.Vc
namespace Go.Proofs.Ythihbgpaoldbjaa
open Go.Vc Go.Key Go.Fold Go.Stab
set_option maxRecDepth 100000
def sA : ByteArray := ⟨#[97]⟩
def sM : ByteArray := ⟨#[109]⟩
theorem slice1 (w : World) (s : ByteArray) (e : TypeId) : StS (w.alloc (.cells #[.string s] e)) (.slice (some ⟨w.heap.size, 0, none⟩) 1 1) [s] := Sl.one w _ _
theorem one13_c (w : World) : FnC Try.prog 54 #[] w fun r w' => (∃ dv mv, r = scV dv mv ∧ ScIs w' dv mv [sA] [sM]) ∧ Later w w' := by
  refine enter54 ?_
  unfold B54
  have l1 := later_alloc w (.cells #[.slice none 0 0, .slice none 0 0] 24)
  have B1 := Blk.new w #[.slice none 0 0, .slice none 0 0] 24
  repeat' (first | (simp (disch := omega) only [push_cast, ↓reduceIte, zA, zG, zB, zH, zI, zC, zJ, zK, zL, zD, zE, zF, zM, zN, zO, zP, zQ, reduceCtorEq, not_true_eq_false, not_false_eq_true]) | (first | refine vIfE_of ?_ ?_ | refine vIfD_of ?_ ?_ | refine vIfQ_of ?_ ?_ | refine vIfV_of ?_ ?_) <;> intro _ | refine And.intro (by omega) ?_ | refine drawn_q ?_ | fail)
  have hw1 := B1.lt
  generalize w.alloc (.cells #[.slice none 0 0, .slice none 0 0] 24) = w1 at *
  have l2 := later_alloc w1 (.cells #[.string sA] 9)
  have h2 := slice1 w1 sA 9
  have es : (⟨#[97]⟩ : ByteArray) = sA := rfl
  have em : (⟨#[109]⟩ : ByteArray) = sM := rfl
  rw [es, em]
  generalize w1.alloc (.cells #[.string sA] 9) = w2 at *
  generalize hk1 : w1.heap.size = k1 at *
  have l3 := later_alloc w2 (.cells #[.string sM] 9)
  have h3 := slice1 w2 sM 9
  generalize w2.alloc (.cells #[.string sM] 9) = w3 at *
  have hw2 := l2.size
  rw [hk1] at hw2
  generalize hk2 : w2.heap.size = k2 at *
  have B3 := B1.chg (Chg.of_later (ks := []) (l2.trans l3)) (by simp)
  refine vStore_blk (l := [.slice none 0 0, .slice none 0 0]) (xs := [.slice (some ⟨k1, 0, none⟩) 1 1, .slice (some ⟨k2, 0, none⟩) 1 1]) B3 rfl rfl (by intro u hu; simp at hu; rcases hu with rfl | rfl <;> rfl) ?_
  intro w4 B4 c4
  have hk := B3.lt
  repeat' (first | (simp (disch := omega) only [push_cast, ↓reduceIte, zA, zG, zB, zH, zI, zC, zJ, zK, zL, zD, zE, zF, zM, zN, zO, zP, zQ, reduceCtorEq, not_true_eq_false, not_false_eq_true]) | (first | refine vIfE_of ?_ ?_ | refine vIfD_of ?_ ?_ | refine vIfQ_of ?_ ?_ | refine vIfV_of ?_ ?_) <;> intro _ | refine And.intro (by omega) ?_ | refine drawn_q ?_ | fail)
  refine resK_cells (s := 2) (by simp (disch := omega) only [push_cast, ↓reduceIte, zA, zG, zB, zH, zI, zC, zJ, zK, zL, zD, zE, zF, zM, zN, zO, zP, zQ, reduceCtorEq, not_true_eq_false, not_false_eq_true]) (by rw [Try.underlying24]; exact sz24) (Blk.cellsAt (l := [.slice (some ⟨k1, 0, none⟩) 1 1, .slice (some ⟨k2, 0, none⟩) 1 1]) B4) ?_
  repeat' (first | (simp (disch := omega) only [push_cast, ↓reduceIte, zA, zG, zB, zH, zI, zC, zJ, zK, zL, zD, zE, zF, zM, zN, zO, zP, zQ, reduceCtorEq, not_true_eq_false, not_false_eq_true]) | (first | refine vIfE_of ?_ ?_ | refine vIfD_of ?_ ?_ | refine vIfQ_of ?_ ?_ | refine vIfV_of ?_ ?_) <;> intro _ | refine And.intro (by omega) ?_ | refine drawn_q ?_ | fail)
  have hz : ∀ s : ByteArray, s.size = 1 → StZ [s] := fun s hs x hx => by rw [List.mem_singleton.1 hx, hs]; omega
  have g2 : StS w4 (.slice (some ⟨k1, 0, none⟩) 1 1) [sA] := Sl.chg (Sl.later h2 l3) c4 (k := k1) (by simp; omega) (.inr rfl)
  have g3 : StS w4 (.slice (some ⟨k2, 0, none⟩) 1 1) [sM] := Sl.chg h3 c4 (k := k2) (by simp; omega) (.inr rfl)
  exact ⟨⟨_, _, rfl, g2, g3, hz _ rfl, hz _ rfl⟩, Chg.later ((l1.trans l2).trans l3) c4 (by intro j hj; rw [List.mem_singleton.1 hj]; omega)⟩
def sV : ByteArray := ⟨#[118]⟩
def s0_ : ByteArray := ⟨#[]⟩
def out13 : List R := [(4, [s0_], 1, [(0, 0, 0)]), (4, [sV], 2, [(5, -2, 7)])]
theorem fold13 : F [(4, [sV], 1, [(7, 7, 7)]), (4, [sV], 1, [(-2, -2, -2)]), (4, [s0_], 1, [(0, 0, 0)])] out13 := by
  have h1 : F [(4, [sV], 1, [(7, 7, 7)])] [(4, [sV], 1, [(7, 7, 7)])] := F.add (l := []) (A := []) (B := []) (r := (4, [sV], 1, [(7, 7, 7)])) F.start (by simp) (by simp)
  have h2 := (F.join (l := [(4, [sV], 1, [(7, 7, 7)])]) (A := []) (B := []) (b := (4, [sV], 1, [(7, 7, 7)])) (r := (4, [sV], 1, [(-2, -2, -2)])) h1 ⟨rfl, rfl⟩).2 (4, [sV], 2, [(5, -2, 7)]) (by rfl)
  exact F.add (l := [(4, [sV], 1, [(7, 7, 7)]), (4, [sV], 1, [(-2, -2, -2)])]) (A := []) (B := [(4, [sV], 2, [(5, -2, 7)])]) (r := (4, [s0_], 1, [(0, 0, 0)])) h2 (by simp) (by intro b hb; rw [List.mem_singleton.1 hb]; decide +kernel)
theorem evErr_zero {nd nm : Nat} {y : Ev} (h1 : y.d.length = nd) (h2 : y.k.length = nm) (h3 : ∀ s ∈ y.d, VlOk s) (h4 : ∀ n ∈ y.k, Fi n) (h5 : 0 ≤ y.t) (h6 : y.t ≤ 1099511627776) : evErr nd nm y = 0 := by
  unfold evErr
  rw [if_neg (by omega), if_neg (fun h => h.elim (fun h => h h3) (fun h => h h4)), if_neg (by omega)]
theorem vl1 {s : ByteArray} (h : VlOk s) : ∀ x ∈ [s], VlOk x := fun x hx => by rw [List.mem_singleton.1 hx]; exact h
theorem asc_sV : Asc sV := by decide +kernel
theorem asc_s0 : Asc s0_ := by decide +kernel
theorem cany1 {s : ByteArray} (ha : Asc s) (hs : s.size ≤ 1000) : CanyL [s] := fun x hx _ => by rw [List.mem_singleton.1 hx]; exact cany_asc s ha hs
set_option maxHeartbeats 2000000 in
theorem alive13_c (w : World) : FnC Try.prog 24 #[] w fun v w' => v = .bool true ∧ Later w w' := by
  refine enter24 ?_
  unfold B24
  have es : (⟨#[118]⟩ : ByteArray) = sV := rfl
  have e0 : (⟨#[]⟩ : ByteArray) = s0_ := rfl
  repeat' (first | (simp (disch := omega) only [push_cast, ↓reduceIte, zA, zG, zB, zH, zI, zC, zJ, zK, zL, zD, zE, zF, zM, zN, zO, zP, zQ, reduceCtorEq, not_true_eq_false, not_false_eq_true]) | (first | refine vIfE_of ?_ ?_ | refine vIfD_of ?_ ?_ | refine vIfQ_of ?_ ?_ | refine vIfV_of ?_ ?_) <;> intro _ | refine And.intro (by omega) ?_ | refine drawn_q ?_ | fail)
  refine (one13_c w).mono ?_
  rintro _ a1 ⟨⟨dv1, mv1, rfl, hS1⟩, la1⟩
  repeat' (first | (simp (disch := omega) only [push_cast, ↓reduceIte, zA, zG, zB, zH, zI, zC, zJ, zK, zL, zD, zE, zF, zM, zN, zO, zP, zQ, reduceCtorEq, not_true_eq_false, not_false_eq_true]) | (first | refine vIfE_of ?_ ?_ | refine vIfD_of ?_ ?_ | refine vIfQ_of ?_ ?_ | refine vIfV_of ?_ ?_) <;> intro _ | refine And.intro (by omega) ?_ | refine drawn_q ?_ | fail)
  first | rw [es] | rw [e0]
  have lb1 := later_alloc a1 (.cells #[.string sV] 9)
  have hd1 := slice1 a1 sV 9
  generalize a1.alloc (.cells #[.string sV] 9) = b1 at *
  have lc1 := later_alloc b1 (.cells #[.int .i64 (7)] 3)
  have hk1 : Sl (b1.alloc (.cells #[.int .i64 (7)] 3)) (.slice (some ⟨b1.heap.size, 0, none⟩) 1 1) (([7] : List Int).map i64v) := Sl.one b1 _ _
  generalize b1.alloc (.cells #[.int .i64 (7)] 3) = c1 at *
  refine (of_c dv1 mv1 [sA] [sM] ⟨4, [sV], [7], .slice (some ⟨a1.heap.size, 0, none⟩) 1 1, .slice (some ⟨b1.heap.size, 0, none⟩) 1 1⟩ c1 (hS1.later (lb1.trans lc1)) ⟨Sl.later hd1 lc1, hk1⟩ (by simp) (by simp) (cany1 asc_sV (by decide))).mono ?_
  rintro _ d1 ⟨z1, er1, rfl, hO1, hE1, ld1⟩
  have ev1 : er1 = 0 := hO1.1.trans (evErr_zero rfl rfl (vl1 (by decide +kernel)) (by intro n hn; rw [List.mem_singleton.1 hn]; decide) (show (0 : Int) ≤ 4 by decide) (show (4 : Int) ≤ 1099511627776 by decide))
  have hz1 : z1.abs = (4, [sV], 1, [one3 (7)]) := by
    rcases hO1.2 with h | h
    · exact absurd ev1 h.1
    · exact h.2
  rw [ev1]
  unfold elV
  repeat' (first | (simp (disch := omega) only [push_cast, ↓reduceIte, zA, zG, zB, zH, zI, zC, zJ, zK, zL, zD, zE, zF, zM, zN, zO, zP, zQ, reduceCtorEq, not_true_eq_false, not_false_eq_true]) | (first | refine vIfE_of ?_ ?_ | refine vIfD_of ?_ ?_ | refine vIfQ_of ?_ ?_ | refine vIfV_of ?_ ?_) <;> intro _ | refine And.intro (by omega) ?_ | refine drawn_q ?_ | fail)
  refine vStore_new rfl rfl (by intro u hu; exact elC_one hE1.is u (by simpa [elC] using hu)) ?_
  have le1 := later_alloc d1 (.cells #[.int .i64 z1.t, z1.dv, .int .i64 z1.n, z1.av] 35)
  have B1 : cellsAt (d1.alloc (.cells #[.int .i64 z1.t, z1.dv, .int .i64 z1.n, z1.av] 35)) ⟨d1.heap.size, 0, none⟩ 4 = some [.int .i64 z1.t, z1.dv, .int .i64 z1.n, z1.av] := Blk.cellsAt (l := elC z1) (Blk.new d1 _ _)
  generalize d1.alloc (.cells #[.int .i64 z1.t, z1.dv, .int .i64 z1.n, z1.av] 35) = x1 at *
  have ho1 := hE1.is.later le1
  have l1 : Later w x1 := (((la1.trans lb1).trans lc1).trans ld1).trans le1
  generalize d1.heap.size = k1 at *
  clear hS1 la1 lb1 lc1 ld1 le1 hd1 hk1 hE1 hO1
  repeat' (first | (simp (disch := omega) only [push_cast, ↓reduceIte, zA, zG, zB, zH, zI, zC, zJ, zK, zL, zD, zE, zF, zM, zN, zO, zP, zQ, reduceCtorEq, not_true_eq_false, not_false_eq_true]) | (first | refine vIfE_of ?_ ?_ | refine vIfD_of ?_ ?_ | refine vIfQ_of ?_ ?_ | refine vIfV_of ?_ ?_) <;> intro _ | refine And.intro (by omega) ?_ | refine drawn_q ?_ | fail)
  refine (one13_c x1).mono ?_
  rintro _ a2 ⟨⟨dv2, mv2, rfl, hS2⟩, la2⟩
  repeat' (first | (simp (disch := omega) only [push_cast, ↓reduceIte, zA, zG, zB, zH, zI, zC, zJ, zK, zL, zD, zE, zF, zM, zN, zO, zP, zQ, reduceCtorEq, not_true_eq_false, not_false_eq_true]) | (first | refine vIfE_of ?_ ?_ | refine vIfD_of ?_ ?_ | refine vIfQ_of ?_ ?_ | refine vIfV_of ?_ ?_) <;> intro _ | refine And.intro (by omega) ?_ | refine drawn_q ?_ | fail)
  first | rw [es] | rw [e0]
  have lb2 := later_alloc a2 (.cells #[.string sV] 9)
  have hd2 := slice1 a2 sV 9
  generalize a2.alloc (.cells #[.string sV] 9) = b2 at *
  have lc2 := later_alloc b2 (.cells #[.int .i64 (-2)] 3)
  have hk2 : Sl (b2.alloc (.cells #[.int .i64 (-2)] 3)) (.slice (some ⟨b2.heap.size, 0, none⟩) 1 1) (([-2] : List Int).map i64v) := Sl.one b2 _ _
  generalize b2.alloc (.cells #[.int .i64 (-2)] 3) = c2 at *
  refine (of_c dv2 mv2 [sA] [sM] ⟨4, [sV], [-2], .slice (some ⟨a2.heap.size, 0, none⟩) 1 1, .slice (some ⟨b2.heap.size, 0, none⟩) 1 1⟩ c2 (hS2.later (lb2.trans lc2)) ⟨Sl.later hd2 lc2, hk2⟩ (by simp) (by simp) (cany1 asc_sV (by decide))).mono ?_
  rintro _ d2 ⟨z2, er2, rfl, hO2, hE2, ld2⟩
  have ev2 : er2 = 0 := hO2.1.trans (evErr_zero rfl rfl (vl1 (by decide +kernel)) (by intro n hn; rw [List.mem_singleton.1 hn]; decide) (show (0 : Int) ≤ 4 by decide) (show (4 : Int) ≤ 1099511627776 by decide))
  have hz2 : z2.abs = (4, [sV], 1, [one3 (-2)]) := by
    rcases hO2.2 with h | h
    · exact absurd ev2 h.1
    · exact h.2
  rw [ev2]
  unfold elV
  repeat' (first | (simp (disch := omega) only [push_cast, ↓reduceIte, zA, zG, zB, zH, zI, zC, zJ, zK, zL, zD, zE, zF, zM, zN, zO, zP, zQ, reduceCtorEq, not_true_eq_false, not_false_eq_true]) | (first | refine vIfE_of ?_ ?_ | refine vIfD_of ?_ ?_ | refine vIfQ_of ?_ ?_ | refine vIfV_of ?_ ?_) <;> intro _ | refine And.intro (by omega) ?_ | refine drawn_q ?_ | fail)
  refine vStore_new rfl rfl (by intro u hu; exact elC_one hE2.is u (by simpa [elC] using hu)) ?_
  have le2 := later_alloc d2 (.cells #[.int .i64 z2.t, z2.dv, .int .i64 z2.n, z2.av] 35)
  have B2 : cellsAt (d2.alloc (.cells #[.int .i64 z2.t, z2.dv, .int .i64 z2.n, z2.av] 35)) ⟨d2.heap.size, 0, none⟩ 4 = some [.int .i64 z2.t, z2.dv, .int .i64 z2.n, z2.av] := Blk.cellsAt (l := elC z2) (Blk.new d2 _ _)
  generalize d2.alloc (.cells #[.int .i64 z2.t, z2.dv, .int .i64 z2.n, z2.av] 35) = x2 at *
  have ho2 := hE2.is.later le2
  have l2 : Later x1 x2 := (((la2.trans lb2).trans lc2).trans ld2).trans le2
  generalize d2.heap.size = k2 at *
  clear hS2 la2 lb2 lc2 ld2 le2 hd2 hk2 hE2 hO2
  repeat' (first | (simp (disch := omega) only [push_cast, ↓reduceIte, zA, zG, zB, zH, zI, zC, zJ, zK, zL, zD, zE, zF, zM, zN, zO, zP, zQ, reduceCtorEq, not_true_eq_false, not_false_eq_true]) | (first | refine vIfE_of ?_ ?_ | refine vIfD_of ?_ ?_ | refine vIfQ_of ?_ ?_ | refine vIfV_of ?_ ?_) <;> intro _ | refine And.intro (by omega) ?_ | refine drawn_q ?_ | fail)
  refine (one13_c x2).mono ?_
  rintro _ a3 ⟨⟨dv3, mv3, rfl, hS3⟩, la3⟩
  repeat' (first | (simp (disch := omega) only [push_cast, ↓reduceIte, zA, zG, zB, zH, zI, zC, zJ, zK, zL, zD, zE, zF, zM, zN, zO, zP, zQ, reduceCtorEq, not_true_eq_false, not_false_eq_true]) | (first | refine vIfE_of ?_ ?_ | refine vIfD_of ?_ ?_ | refine vIfQ_of ?_ ?_ | refine vIfV_of ?_ ?_) <;> intro _ | refine And.intro (by omega) ?_ | refine drawn_q ?_ | fail)
  first | rw [es] | rw [e0]
  have lb3 := later_alloc a3 (.cells #[.string s0_] 9)
  have hd3 := slice1 a3 s0_ 9
  generalize a3.alloc (.cells #[.string s0_] 9) = b3 at *
  have lc3 := later_alloc b3 (.cells #[.int .i64 (0)] 3)
  have hk3 : Sl (b3.alloc (.cells #[.int .i64 (0)] 3)) (.slice (some ⟨b3.heap.size, 0, none⟩) 1 1) (([0] : List Int).map i64v) := Sl.one b3 _ _
  generalize b3.alloc (.cells #[.int .i64 (0)] 3) = c3 at *
  refine (of_c dv3 mv3 [sA] [sM] ⟨4, [s0_], [0], .slice (some ⟨a3.heap.size, 0, none⟩) 1 1, .slice (some ⟨b3.heap.size, 0, none⟩) 1 1⟩ c3 (hS3.later (lb3.trans lc3)) ⟨Sl.later hd3 lc3, hk3⟩ (by simp) (by simp) (cany1 asc_s0 (by decide))).mono ?_
  rintro _ d3 ⟨z3, er3, rfl, hO3, hE3, ld3⟩
  have ev3 : er3 = 0 := hO3.1.trans (evErr_zero rfl rfl (vl1 (by decide +kernel)) (by intro n hn; rw [List.mem_singleton.1 hn]; decide) (show (0 : Int) ≤ 4 by decide) (show (4 : Int) ≤ 1099511627776 by decide))
  have hz3 : z3.abs = (4, [s0_], 1, [one3 (0)]) := by
    rcases hO3.2 with h | h
    · exact absurd ev3 h.1
    · exact h.2
  rw [ev3]
  unfold elV
  repeat' (first | (simp (disch := omega) only [push_cast, ↓reduceIte, zA, zG, zB, zH, zI, zC, zJ, zK, zL, zD, zE, zF, zM, zN, zO, zP, zQ, reduceCtorEq, not_true_eq_false, not_false_eq_true]) | (first | refine vIfE_of ?_ ?_ | refine vIfD_of ?_ ?_ | refine vIfQ_of ?_ ?_ | refine vIfV_of ?_ ?_) <;> intro _ | refine And.intro (by omega) ?_ | refine drawn_q ?_ | fail)
  refine vStore_new rfl rfl (by intro u hu; exact elC_one hE3.is u (by simpa [elC] using hu)) ?_
  have le3 := later_alloc d3 (.cells #[.int .i64 z3.t, z3.dv, .int .i64 z3.n, z3.av] 35)
  have B3 : cellsAt (d3.alloc (.cells #[.int .i64 z3.t, z3.dv, .int .i64 z3.n, z3.av] 35)) ⟨d3.heap.size, 0, none⟩ 4 = some [.int .i64 z3.t, z3.dv, .int .i64 z3.n, z3.av] := Blk.cellsAt (l := elC z3) (Blk.new d3 _ _)
  generalize d3.alloc (.cells #[.int .i64 z3.t, z3.dv, .int .i64 z3.n, z3.av] 35) = x3 at *
  have ho3 := hE3.is.later le3
  have l3 : Later x2 x3 := (((la3.trans lb3).trans lc3).trans ld3).trans le3
  generalize d3.heap.size = k3 at *
  clear hS3 la3 lb3 lc3 ld3 le3 hd3 hk3 hE3 hO3
  have B13 := cellsAt_later (l2.trans l3) 4 B1
  have B23 := cellsAt_later l3 4 B2
  have i1 := ho1.later (l2.trans l3)
  have i2 := ho2.later l3
  repeat' (first | (simp (disch := omega) only [push_cast, ↓reduceIte, zA, zG, zB, zH, zI, zC, zJ, zK, zL, zD, zE, zF, zM, zN, zO, zP, zQ, reduceCtorEq, not_true_eq_false, not_false_eq_true, B13, B23, B3]) | (first | refine vIfE_of ?_ ?_ | refine vIfD_of ?_ ?_ | refine vIfQ_of ?_ ?_ | refine vIfV_of ?_ ?_) <;> intro _ | refine And.intro (by omega) ?_ | refine drawn_q ?_ | fail)
  have hR : RecS elC 4 (x3.alloc (.cells #[.int .i64 z1.t, z1.dv, .int .i64 z1.n, z1.av, .int .i64 z2.t, z2.dv, .int .i64 z2.n, z2.av, .int .i64 z3.t, z3.dv, .int .i64 z3.n, z3.av] 35)) (.slice (some ⟨x3.heap.size, 0, none⟩) 3 3) [z1, z2, z3] :=
    SlN.lit x3 [.int .i64 z1.t, z1.dv, .int .i64 z1.n, z1.av, .int .i64 z2.t, z2.dv, .int .i64 z2.n, z2.av, .int .i64 z3.t, z3.dv, .int .i64 z3.n, z3.av] _ 4 3 rfl (by unfold maxLen; omega)
  have l4 := later_alloc x3 (.cells #[.int .i64 z1.t, z1.dv, .int .i64 z1.n, z1.av, .int .i64 z2.t, z2.dv, .int .i64 z2.n, z2.av, .int .i64 z3.t, z3.dv, .int .i64 z3.n, z3.av] 35)
  generalize x3.alloc (.cells #[.int .i64 z1.t, z1.dv, .int .i64 z1.n, z1.av, .int .i64 z2.t, z2.dv, .int .i64 z2.n, z2.av, .int .i64 z3.t, z3.dv, .int .i64 z3.n, z3.av] 35) = x4 at *
  have gd : ∀ (t : Int) (s : ByteArray) (n : Int), Fi n → Gd 1 1 (t, [s], 1, [one3 n]) := fun t s n h => ⟨show (1 : Int) ≤ 1 by decide, show (1 : Int) ≤ 1048576 by decide, fun a ha => by rw [List.mem_singleton.1 ha]; exact ⟨h, h, h, Int.le_refl _⟩, rfl, rfl, by decide, by decide⟩
  refine (rfold_c 1 1 _ [z1, z2, z3] x4 hR (fun e he => ?_) (by simp)).mono ?_
  · simp only [List.mem_cons, List.not_mem_nil, or_false] at he
    rcases he with rfl | rfl | rfl
    · exact ⟨i1.later l4, by rw [hz1]; exact gd _ _ _ (by decide)⟩
    · exact ⟨i2.later l4, by rw [hz2]; exact gd _ _ _ (by decide)⟩
    · exact ⟨ho3.later l4, by rw [hz3]; exact gd _ _ _ (by decide)⟩
  rintro _ x5 ⟨vv, er, rfl, hf, l5⟩
  have hL : [z1, z2, z3].map El.abs = [(4, [sV], 1, [(7, 7, 7)]), (4, [sV], 1, [(-2, -2, -2)]), (4, [s0_], 1, [(0, 0, 0)])] := by
    simp only [List.map_cons, List.map_nil, hz1, hz2, hz3]; rfl
  have l05 := (((l1.trans l2).trans l3).trans l4).trans l5
  rw [hL] at hf
  rcases hf with ⟨_, _, hb⟩ | ⟨rfl, es, ho, hF, hE⟩
  · exact absurd hb fold13.ok
  have hes : es.map El.abs = out13 := Option.some.inj (Res.one (o := some out13) (o' := some (es.map El.abs)) (Stb.refl _) fold13 hF)
  obtain ⟨q1, q2, rfl⟩ : ∃ q1 q2, es = [q1, q2] := by
    have := congrArg List.length hes
    rw [List.length_map] at this
    match es, this with
    | [q1, q2], _ => exact ⟨q1, q2, rfl⟩
  clear hF hL hz1 hz2 hz3 hR gd i1 i2 ho1 ho2 ho3 B1 B2 B3 B13 B23 l1 l2 l3 l4 l5
  have h2 : q2.abs = (4, [sV], 2, [(5, -2, 7)]) := by
    simp only [List.map_cons, List.map_nil, out13, List.cons.injEq] at hes
    exact hes.2.1
  have hn2 : q2.n = 2 := congrArg (fun r : R => r.2.2.1) h2
  have ha2 : q2.a = [(5, -2, 7)] := congrArg (fun r : R => r.2.2.2) h2
  obtain ⟨hE2, _⟩ := hE q2 (by simp)
  obtain ⟨oo, oc, hov, _⟩ := RecS.slice (OwnR.s ho)
  subst hov
  cases oo with
  | none => have h1 := SlN.len (OwnR.s ho); have h2 := (h1.2.2.2.2 rfl).1; simp at h2
  | some a =>
  obtain ⟨g, rfl, _⟩ := own_writes ho
  have f6 := RecS.cell elC_len (OwnR.s ho) (i := 1) (j := 2) (by simp) (x := .int .i64 q2.n) rfl
  have f7 := RecS.cell elC_len (OwnR.s ho) (i := 1) (j := 3) (by simp) (x := q2.av) rfl
  rw [addr_add_eq, addr_add_eq, hn2] at f6
  rw [addr_add_eq, addr_add_eq] at f7
  have hA := hE2.is.2
  rw [ha2] at hA
  obtain ⟨oa, ca, hav, _⟩ := RecS.slice hA
  rw [hav] at f7 hA
  obtain ⟨aa, rfl, fa⟩ := RecS.at agC_len hA (i := 0) (by simp)
  have fa' : cellsAt x5 aa 3 = some [.int .i64 5, .int .i64 (-2), .int .i64 7] := by
    rw [Nat.zero_mul, addr_add_zero] at fa
    simpa [agC] using fa
  repeat' (first | (simp (disch := omega) only [push_cast, ↓reduceIte, zA, zG, zB, zH, zI, zC, zJ, zK, zL, zD, zE, zF, zM, zN, zO, zP, zQ, reduceCtorEq, not_true_eq_false, not_false_eq_true, f6, f7, fa', addr_add_eq, Nat.zero_add, List.length_cons, List.length_nil]) | (first | refine vIfE_of ?_ ?_ | refine vIfD_of ?_ ?_ | refine vIfQ_of ?_ ?_ | refine vIfV_of ?_ ?_) <;> intro _ | refine And.intro (by omega) ?_ | refine drawn_q ?_ | fail)
  refine vBin_agg3 Try.underlying64 Try.underlying3 Try.underlying3 Try.underlying3 rfl rfl rfl (by decide) (by decide) (by decide) (by kernel_rfl) (by kernel_rfl) _ _ _ _ _ _ _ _ ?_
  repeat' (first | (simp (disch := omega) only [push_cast, ↓reduceIte, zA, zG, zB, zH, zI, zC, zJ, zK, zL, zD, zE, zF, zM, zN, zO, zP, zQ, reduceCtorEq, not_true_eq_false, not_false_eq_true, decide_true]) | (first | refine vIfE_of ?_ ?_ | refine vIfD_of ?_ ?_ | refine vIfQ_of ?_ ?_ | refine vIfV_of ?_ ?_) <;> intro _ | refine And.intro (by omega) ?_ | refine drawn_q ?_ | fail)
  first | exact ⟨rfl, l05⟩ | exact l05
end Go.Proofs.Ythihbgpaoldbjaa
end
section
namespace Go.Proofs.Ythihbgpaoldbjaa
open Go.Vc Go.Key Go.Fold Go.Stab
end Go.Proofs.Ythihbgpaoldbjaa
end
section
namespace Go.Vc
open Go.RowKit
variable {P : Program}
end Go.Vc
namespace Go.Proofs.Ythihbgpaoldbjaa
open Go.Vc Go.Key
set_option maxRecDepth 100000
end Go.Proofs.Ythihbgpaoldbjaa
end
section
namespace Go.Proofs
open Go.Shelf Go.RowKit Go.Lib BigFrame
variable {P : Program} {ρ : Ren}
set_option maxHeartbeats 4000000 in
set_option maxRecDepth 1000000 in
theorem Any.IndexRune_high (L : Lays.n152 P ρ) (r : Int) (w : World) (h1 : 128 ≤ r) (hne : ¬ r = 65533) (hv : Utf8.valid r = true) :
    Calls P (ρ.f 152) #[.string ⟨#[34, 92]⟩, .int .i32 r] w fun e w' => e = .returned (.int .i64 (-1)) ∧ ∃ n, w' = w.drewN n := by
  obtain ⟨g1, g2, g3⟩ := encode_facts r hv h1
  have hvr : Lib.validRune r = true := by
    have := validRune_eq r
    rw [hv] at this
    unfold Go.validRune at this
    unfold Lib.validRune
    exact this.symm
  have mixed := L.mixed
  have t3 := L.t3; have a3 := L.a3; have z3 := L.z3; have v3 := L.v3
  have t4 := L.t4; have a4 := L.a4; have z4 := L.z4; have v4 := L.v4
  have t5 := L.t5; have a5 := L.a5; have z5 := L.z5; have v5 := L.v5
  have t9 := L.t9; have a9 := L.a9; have z9 := L.z9; have v9 := L.v9
  have t21 := L.t21; have a21 := L.a21; have z21 := L.z21; have v21 := L.v21
  have e119 : ∀ args w, (callFunc (ρ.f 119) args).run P w = .ok (.enter (ρ.f 119) args) w := enters_of L.f119 (by kernel_rfl) rfl
  go_enter L.f152, Body.n152_ntmps ρ
  go_wp2_with (go_at_fn (ρ.f 119); refine (Any.utf8_ValidRune { L with } _ _).mono ?_; rintro e w' ⟨rfl, hw⟩; rw [hw, hvr])
  subst hw
  have hcv : ∀ w, (convert (ρ.t 21) (ρ.t 9) (.int .i32 r)).run P w = .ok (.string (Utf8.encode r)) w := fun w => run_convert_int_string w _ _ _ _ (by rw [t21]; rfl) t9
  generalize Utf8.encode r = rs at *
  clear hv hvr
  by_cases h2 : rs.size = 2
  · have hi : ((rs.size : Int) - 1 < 2) := by omega
    have hi2 : ((rs.size : Int) - 1) = 1 := by omega
    have g4 : 128 ≤ (rs[1]'(by omega)).toNat := by
      have := g3 (by omega)
      simpa only [h2] using this
    clear g3
    go_step3
    go_wp2
    go_rounds 1
    obtain ⟨y, hy⟩ : ∃ y : UInt8, ∀ h, rs[1]'h = y := ⟨rs[1]'(by omega), fun _ => rfl⟩
    rw [hy] at g4
    have hne2 : ((92 : Int) == (y.toNat : Int)) = false := beq_eq_false_iff_ne.2 (by omega)
    have hlt1 : (1 : Int) < (rs.size : Int) := by omega
    have hlt2 : (0 : Int) ≤ 1 ∧ (1 : Int) < (rs.size : Int) := by omega
    clear h2
    go_step3
    refine wp_seq_k fun K1 hK1 => ?_
    refine wp_seq_k fun K2 hK2 => ?_
    go_big_quiet_o (fail)
    refine hK2 _ _ ?_
    clear hK2
    have e92 : (((({ data := #[34, 92] } : ByteArray)[1]'(by decide)).toNat : Int) != (y.toNat : Int)) = true := by
      have e : ((({ data := #[34, 92] } : ByteArray)[1]'(by decide)).toNat : Int) = 92 := rfl
      rw [e, bne_iff_ne]
      omega
    rw [e92]
    go_wp2
    have e137 : ∀ args w, (callFunc (ρ.f 137) args).run P w = .ok (.enter (ρ.f 137) args) w := enters_of L.f137 (by kernel_rfl) rfl
    have hIB := fun (w : World) => Any.strings_IndexByte (P := P) (ρ := ρ) { L with } ByteArray.empty (y.toNat : Int) w
    obtain ⟨w1, hw1⟩ : ∃ w1, w'.drewN nq = w1 := ⟨_, rfl⟩
    rw [hw1]
    go_big_quiet_o (first | (go_at_fn (ρ.f 137); refine Calls.quiet_of_same (hIB _)))
    go_wp2
    rw [Exit.noGoto_ret]
    simp only [Exit.inBlock, Exit.then, Exit.noGoto_ret]
    go_ret
    rw [← hw1, World.drewN_drewN]
    exact ⟨rfl, _, rfl⟩
  · have hn : ¬ ((rs.size : Int) - 1 < 2) := by omega
    clear g3
    go_step3
    go_wp2
    go_rounds 1
    rw [Exit.noGoto_ret]
    go_ret
    exact ⟨rfl, 0, rfl⟩
set_option maxHeartbeats 4000000 in
set_option maxRecDepth 1000000 in
theorem Any.IndexRune_err (L : Lays.n152 P ρ) (w : World) :
    Calls P (ρ.f 152) #[.string ⟨#[34, 92]⟩, .int .i32 65533] w fun e w' => e = .returned (.int .i64 (-1)) ∧ ∃ n, w' = w.iter ⟨#[34, 92]⟩ n := by
  have mixed := L.mixed
  have t3 := L.t3; have a3 := L.a3; have z3 := L.z3; have v3 := L.v3
  have t4 := L.t4; have a4 := L.a4; have z4 := L.z4; have v4 := L.v4
  have t5 := L.t5; have a5 := L.a5; have z5 := L.z5; have v5 := L.v5
  have t9 := L.t9; have a9 := L.a9; have z9 := L.z9; have v9 := L.v9
  have t21 := L.t21; have a21 := L.a21; have z21 := L.z21; have v21 := L.v21
  have hn0 := fun ty => run_next_ascii (P := P) w (⟨#[34, 92]⟩ : ByteArray) 0 ty (by decide) (by decide)
  have hn1 := fun ty => run_next_ascii (P := P) w (⟨#[34, 92]⟩ : ByteArray) 1 ty (by decide) (by decide)
  have hn2 := fun ty => run_next_end (P := P) w (⟨#[34, 92]⟩ : ByteArray) 2 ty (by decide)
  go_enter L.f152, Body.n152_ntmps ρ
  go_wp2
  go_rounds 3
  go_ret
  exact ⟨rfl, _, rfl⟩
set_option maxHeartbeats 4000000 in
set_option maxRecDepth 1000000 in
theorem Any.IndexRune_bad (L : Lays.n152 P ρ) (r : Int) (w : World) (h1 : 128 ≤ r) (hne : ¬ r = 65533) (hv : Utf8.valid r = false) :
    Calls P (ρ.f 152) #[.string ⟨#[34, 92]⟩, .int .i32 r] w fun e w' => e = .returned (.int .i64 (-1)) ∧ w' = w := by
  have hvr : Lib.validRune r = false := by
    have := validRune_eq r
    rw [hv] at this
    unfold Go.validRune at this
    unfold Lib.validRune
    exact this.symm
  have mixed := L.mixed
  have t3 := L.t3; have a3 := L.a3; have z3 := L.z3; have v3 := L.v3
  have t4 := L.t4; have a4 := L.a4; have z4 := L.z4; have v4 := L.v4
  have t5 := L.t5; have a5 := L.a5; have z5 := L.z5; have v5 := L.v5
  have t9 := L.t9; have a9 := L.a9; have z9 := L.z9; have v9 := L.v9
  have t21 := L.t21; have a21 := L.a21; have z21 := L.z21; have v21 := L.v21
  have e119 : ∀ args w, (callFunc (ρ.f 119) args).run P w = .ok (.enter (ρ.f 119) args) w := enters_of L.f119 (by kernel_rfl) rfl
  go_enter L.f152, Body.n152_ntmps ρ
  go_wp2_with (go_at_fn (ρ.f 119); refine (Any.utf8_ValidRune { L with } _ _).mono ?_; rintro e w' ⟨rfl, hw⟩; rw [hw, hvr])
  go_ret
  exact ⟨rfl, rfl⟩
theorem below_drewN_any (w : World) (n : Nat) : Below w.heap.size w (w.drewN n) := ⟨rfl, rfl, rfl, Nat.le_refl _, fun _ _ => rfl⟩
theorem Any.IndexRune_any (L : Lays.n152 P ρ) (r : Int) (w : World) (h0 : 0 ≤ r) (hr : r ≤ 2147483647) :
    Calls P (ρ.f 152) #[.string ⟨#[34, 92]⟩, .int .i32 r] w fun e w' => (∃ n : Int, e = .returned (.int .i64 n)) ∧ Below w.heap.size w w' := by
  by_cases h1 : r < 128
  · exact (Any.strings_IndexRune_ascii L _ r w h0 h1).mono fun e w' ⟨h, hw⟩ => ⟨⟨_, h⟩, hw ▸ Below.refl _ _⟩
  by_cases hne : r = 65533
  · subst hne
    exact (Any.IndexRune_err L w).mono fun e w' ⟨h, n, hw⟩ => ⟨⟨_, h⟩, hw ▸ (Below.refl _ _).alloc (Nat.le_refl _) _⟩
  cases hv : Utf8.valid r with
  | false => exact (Any.IndexRune_bad L r w (by omega) hne hv).mono fun e w' ⟨h, hw⟩ => ⟨⟨_, h⟩, hw ▸ Below.refl _ _⟩
  | true => exact (Any.IndexRune_high L r w (by omega) hne hv).mono fun e w' ⟨h, n, hw⟩ => ⟨⟨_, h⟩, hw ▸ below_drewN_any w n⟩
set_option maxHeartbeats 8000000 in
set_option maxRecDepth 1000000 in
theorem Any.IndexAny_short_any (L : Lays.n153 P ρ) (s : ByteArray) (w : World) (h8 : s.size ≤ 8) :
    Calls P (ρ.f 153) #[.string s, .string ⟨#[34, 92]⟩] w fun e w' => (∃ n : Int, e = .returned (.int .i64 n)) ∧ Below w.heap.size w w' := by
  have h8z : decide ((8 : Int) < (s.size : Int)) = false := decide_eq_false (by omega)
  have t3 := L.t3; have a3 := L.a3; have z3 := L.z3; have v3 := L.v3
  have t4 := L.t4; have a4 := L.a4; have z4 := L.z4; have v4 := L.v4
  have t5 := L.t5; have a5 := L.a5; have z5 := L.z5; have v5 := L.v5
  have t9 := L.t9; have a9 := L.a9; have z9 := L.z9; have v9 := L.v9
  have t21 := L.t21; have a21 := L.a21; have z21 := L.z21; have v21 := L.v21
  have e152 : ∀ args w, (callFunc (ρ.f 152) args).run P w = .ok (.enter (ρ.f 152) args) w := enters_of L.f152 (by kernel_rfl) rfl
  have e226 : ∀ args w, (callFunc (ρ.f 226) args).run P w = .ok (.enter (ρ.f 226) args) w := enters_of L.f226 (by kernel_rfl) rfl
  go_enter L.f153, Body.n153_ntmps ρ
  go_wp2_with (go_at_fn (ρ.f 226); refine (Any.strings_shouldUseASCIISet { L with } _ _).mono ?_; rintro e w' ⟨rfl, hw⟩; rw [hw, h8z])
  go_loopw [9, 10] (fun _ _ wr => ∃ pos : Nat, wr.heap[w.heap.size]? = some (.stringIter s pos) ∧ Below w.heap.size w wr) (fun _ _ wr => s.size - wr.iterPos w.heap.size)
  case atStart => exact ⟨0, World.iter_heap w s 0, (Below.refl _ _).alloc (Nat.le_refl _) _⟩
  case round =>
    obtain ⟨pos, hit, hbw⟩ := hrel
    have hsz : w.heap.size < wr.heap.size := (Array.getElem?_eq_some_iff.1 hit).1
    by_cases hp : pos < s.size
    · have hnx : ∀ ty, (Instr.next (.pointer (some ⟨w.heap.size, 0, none⟩)) true ty).run P wr = _ := fun ty => Lib.run_next_any_at wr w.heap.size s pos ty hit hp
      have hwd : 1 ≤ (Utf8.decode s pos).2 := by
        by_cases ha : (s[pos]'hp).toNat < 128
        · rw [decode_ascii s pos hp ha]; exact Nat.le_refl _
        · exact (decode_high s pos hp (by omega)).2
      have hd1 := decode_le s pos
      have hit2 := Lib.iterAt_heap wr w.heap.size s pos (pos + (Utf8.decode s pos).2) hit
      have hbw2 := Lib.below_iterAt hbw (k := w.heap.size) (by omega) s (pos + (Utf8.decode s pos).2)
      have hsz2 : w.heap.size < (wr.iterAt w.heap.size s (pos + (Utf8.decode s pos).2)).heap.size := by rw [Lib.iterAt_size]; omega
      go_wp2_with (go_at_fn (ρ.f 152); refine (Any.IndexRune_any { L with } _ _ (by omega) (by omega)).mono ?_; rintro e w1 ⟨⟨n, rfl⟩, hb1⟩)
      all_goals have hit3 : w1.heap[w.heap.size]? = some (.stringIter s (pos + (Utf8.decode s pos).2)) := (hb1.block _ hsz2).trans hit2
      all_goals have hbw3 := hbw2.trans (hb1.mono (Nat.le_of_lt hsz2))
      · go_ret
        exact ⟨⟨_, rfl⟩, hbw3⟩
      · refine ⟨⟨_, hit3, hbw3⟩, ?_⟩
        simp only [World.iterPos, hit3, hit]
        omega
    · have hnx : ∀ ty, (Instr.next (.pointer (some ⟨w.heap.size, 0, none⟩)) true ty).run P wr = _ := fun ty => Lib.run_next_end_at wr w.heap.size s pos ty hit hp
      go_wp2
      go_ret
      exact ⟨⟨_, rfl⟩, hbw⟩
set_option maxHeartbeats 1000000 in
theorem Any.ContainsAny_quotes (L : Lays.n150 P ρ) (h116 : (P.info? (ρ.t 116)).map (fun i => (i.zero, i.size)) = some (some (.agg (Array.replicate 256 (.bool false))), 256)) (s : ByteArray) (w : World) (hs : s.size < 4294967281) :
    Calls P (ρ.f 150) #[.string s, .string ⟨#[34, 92]⟩] w fun e w' => (∃ t : Bool, e = .returned (.bool t)) ∧ Below w.heap.size w w' := by
  have c : Calls P (ρ.f 153) #[.string s, .string ⟨#[34, 92]⟩] w fun e w' => (∃ n : Int, e = .returned (.int .i64 n)) ∧ Below w.heap.size w w' := by
    by_cases h8 : s.size ≤ 8
    · exact Any.IndexAny_short_any { L with } s w h8
    · refine (Any.strings_IndexAny_long { L with } (zero_of_info h116).1 (zero_of_info h116).2 s ⟨#[34, 92]⟩ w (by decide) (by omega) hs (by decide) (fun j b hb => ?_)).mono fun e w' ⟨h1, h2⟩ => ⟨⟨_, h1⟩, ?_⟩
      · match j, hb with
        | 0, hb => cases hb; decide
        | 1, hb => cases hb; decide
        | n + 2, hb => simp at hb
      · rw [h2]
        exact ((Below.refl _ _).alloc (Nat.le_refl _) _).alloc (by simp) _
  have t3 := L.t3; have a3 := L.a3; have z3 := L.z3; have v3 := L.v3
  have t4 := L.t4; have a4 := L.a4; have z4 := L.z4; have v4 := L.v4
  have t9 := L.t9; have a9 := L.a9; have z9 := L.z9; have v9 := L.v9
  have e153 : ∀ args w, (callFunc (ρ.f 153) args).run P w = .ok (.enter (ρ.f 153) args) w := enters_of L.f153 (by kernel_rfl) rfl
  go_enter L.f150, Body.n150_ntmps ρ
  go_wp2_with (go_at_fn (ρ.f 153); refine c.mono ?_; rintro e w' ⟨⟨n, rfl⟩, hw⟩)
  go_ret
  exact ⟨⟨_, rfl⟩, hw⟩
end Go.Proofs
end
section
namespace Go.Proofs.Ythihbgpaoldbjaa
open Go.Vc Go.Key
set_option maxRecDepth 100000
theorem cany_all (s : ByteArray) (hs : s.size ≤ 1000) : CanyAt s := by
  by_cases ha : Asc s
  · exact cany_asc s ha hs
  intro w
  refine FnC.of_calls hbCA (Go.Proofs.Any.ContainsAny_quotes Try.lays150 (by kernel_rfl) s w (by omega)) ?_
  rintro e w' ⟨⟨t, rfl⟩, hl⟩
  exact ⟨_, rfl, ⟨t, rfl, fun h => absurd h ha⟩, hl⟩
theorem canyL_all {l : List ByteArray} : CanyL l := fun s _ h => cany_all s (by omega)
end Go.Proofs.Ythihbgpaoldbjaa
end
