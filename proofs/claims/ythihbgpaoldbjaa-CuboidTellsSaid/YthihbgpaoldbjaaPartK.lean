/- Contracts: rows sorted, each class in its order. -/
import Derived.Test.YthihbgpaoldbjaaPartJ
set_option linter.all false
open Nat renaming reduceEqDiff → zA, reducePow → zB, reduceMul → zC, reduceAdd → zD, reduceSub → zE, reduceLeDiff → zF
open Int renaming reduceToNat → zG, reducePow → zH, reduceNeg → zI, reduceMul → zJ, reduceAdd → zK, reduceSub → zL, reduceLT → zM, reduceLE → zN, reduceEq → zO, reduceMod → zP, reduceDiv → zQ
section
set_option linter.unusedSimpArgs false
namespace Go.Proofs.Ythihbgpaoldbjaa
open Go.Vc Go.Key Go.Stab
set_option maxRecDepth 100000
theorem bs_take (bs : Nat) (R : List El) (h : bs + bs ≤ R.length) : R = (R.take bs ++ (R.drop bs).take bs) ++ R.drop (bs + bs) := by
  have h1 : R.drop bs = (R.drop bs).take bs ++ (R.drop bs).drop bs := (List.take_append_drop _ _).symm
  rw [List.drop_drop] at h1
  have h2 : R = R.take bs ++ R.drop bs := (List.take_append_drop _ _).symm
  rw [List.append_assoc, ← h1, ← h2]
set_option maxHeartbeats 2000000 in
theorem stable_c (B B' g c : Nat) (L l : List El) (w : World) (h : Sw w B B' g c L l) :
    FnC Try.prog 100 #[.slice (some ⟨g, 0, none⟩) l.length c, .int .i64 (l.length : Int), cmpV] w fun r w' => ∃ l', Srt elt l' ∧ Stb elt l l' ∧ Sw w' B B' g c L l' ∧ Chg w w' [g] := by
  have hbig := h.big
  generalize hN : l.length = N at *
  refine enter100 _ _ _ ?_
  unfold B100
  repeat' (first | (simp (disch := omega) only [push_cast, ↓reduceIte, zA, zG, zB, zH, zI, zC, zJ, zK, zL, zD, zE, zF, zM, zN, zO, zP, zQ, reduceCtorEq, not_true_eq_false, not_false_eq_true]) | (first | refine vIfE_of ?_ ?_ | refine vIfD_of ?_ ?_ | refine vIfQ_of ?_ ?_ | refine vIfV_of ?_ ?_) <;> intro _ | refine And.intro (by omega) ?_ | refine drawn_q ?_ | fail)
  refine vc_loop W100_0 (fun A : Nat => [(7, .int .i64 (A : Int)), (8, .int .i64 ((A : Int) + 20))])
    (fun A w' => (∃ k, A = k * 20) ∧ ∃ P R, P.length = A ∧ P.length + R.length = N ∧ Bs elt 20 P ∧ Stb elt l (P ++ R) ∧ Sw w' B B' g c L (P ++ R) ∧ Chg w w' [g]) (fun A => N - A) 0 (by decide) ?_ ?_ ?_
  · simp (disch := omega) only [push_cast, ↓reduceIte, zA, zG, zB, zH, zI, zC, zJ, zK, zL, zD, zE, zF, zM, zN, zO, zP, zQ, reduceCtorEq, not_true_eq_false, not_false_eq_true]
  · exact ⟨⟨0, rfl⟩, [], l, rfl, by simp [hN], Bs.nil, Stb.refl _, h, Chg.refl _ _⟩
  rintro A uu w1 ⟨⟨k, hk⟩, P, R, hP, hPR, bP, tl, h1, c1⟩
  by_cases hlt : A + 20 ≤ N
  · have hR : R = R.take 20 ++ R.drop 20 := (List.take_append_drop _ _).symm
    have n1 : (R.take 20).length = 20 := by rw [List.length_take]; omega
    have n2 : (R.drop 20).length = R.length - 20 := List.length_drop
    generalize R.take 20 = M at *
    generalize R.drop 20 = Y at *
    subst hR
    have hi := insertion_c B B' g c L P M Y w1 (by simpa using h1)
    rw [show (P ++ M ++ Y).length = N by simp only [List.length_append] at *; omega, show P.length + M.length = A + 20 by omega, hP] at hi
    repeat' (first | (simp (disch := omega) only [push_cast, ↓reduceIte, zA, zG, zB, zH, zI, zC, zJ, zK, zL, zD, zE, zF, zM, zN, zO, zP, zQ, reduceCtorEq, not_true_eq_false, not_false_eq_true]) | (first | refine vIfE_of ?_ ?_ | refine vIfD_of ?_ ?_ | refine vIfQ_of ?_ ?_ | refine vIfV_of ?_ ?_) <;> intro _ | refine And.intro (by omega) ?_ | refine drawn_q ?_ | fail)
    refine hi.mono ?_
    rintro _ w2 ⟨M', sM, tM, h2, c2⟩
    have hl' := tM.1
    obtain ⟨A', hA'⟩ : ∃ A', A' = A + 20 := ⟨_, rfl⟩
    have eA : (A : Int) + 20 = (A' : Int) := by omega
    repeat' (first | (simp (disch := omega) only [push_cast, ↓reduceIte, zA, zG, zB, zH, zI, zC, zJ, zK, zL, zD, zE, zF, zM, zN, zO, zP, zQ, reduceCtorEq, not_true_eq_false, not_false_eq_true, eA]) | (first | refine vIfE_of ?_ ?_ | refine vIfD_of ?_ ?_ | refine vIfQ_of ?_ ?_ | refine vIfV_of ?_ ?_) <;> intro _ | refine And.intro (by omega) ?_ | refine drawn_q ?_ | fail)
    refine ⟨rfl, A', by simp (disch := omega) only [push_cast, ↓reduceIte, zA, zG, zB, zH, zI, zC, zJ, zK, zL, zD, zE, zF, zM, zN, zO, zP, zQ, reduceCtorEq, not_true_eq_false, not_false_eq_true, eA], ⟨⟨k + 1, by omega⟩, P ++ M', Y, by rw [List.length_append]; omega, by rw [List.length_append]; rw [List.length_append] at hPR; omega, bP.snoc (k := k) (by omega) sM (by omega), ?_, h2, c1.trans c2⟩, by dsimp only; omega⟩
    refine tl.trans ?_
    have := ((Stb.refl (lt := elt) P).append tM).append (Stb.refl (lt := elt) Y)
    simpa using this
  · have hi := insertion_c B B' g c L P R [] w1 (by simpa using h1)
    rw [show (P ++ R ++ ([] : List El)).length = N by simp only [List.length_append, List.length_nil]; omega, hPR, hP] at hi
    repeat' (first | (simp (disch := omega) only [push_cast, ↓reduceIte, zA, zG, zB, zH, zI, zC, zJ, zK, zL, zD, zE, zF, zM, zN, zO, zP, zQ, reduceCtorEq, not_true_eq_false, not_false_eq_true]) | (first | refine vIfE_of ?_ ?_ | refine vIfD_of ?_ ?_ | refine vIfQ_of ?_ ?_ | refine vIfV_of ?_ ?_) <;> intro _ | refine And.intro (by omega) ?_ | refine drawn_q ?_ | fail)
    refine hi.mono ?_
    rintro _ w2 ⟨R', sR, tR, h2, c2⟩
    have hl' := tR.1
    have bP' : Bs elt 20 (P ++ R') := bP.snoc (k := k) (by omega) sR (by omega)
    have tl' : Stb elt l (P ++ R') := tl.trans ((Stb.refl (lt := elt) P).append tR)
    have hlen : (P ++ R').length = N := by rw [List.length_append]; omega
    rw [List.append_nil] at h2
    have c12 := c1.trans c2
    clear hi h1 c1 c2 tR sR tl bP
    generalize P ++ R' = cur at *
    repeat' (first | (simp (disch := omega) only [push_cast, ↓reduceIte, zA, zG, zB, zH, zI, zC, zJ, zK, zL, zD, zE, zF, zM, zN, zO, zP, zQ, reduceCtorEq, not_true_eq_false, not_false_eq_true]) | (first | refine vIfE_of ?_ ?_ | refine vIfD_of ?_ ?_ | refine vIfQ_of ?_ ?_ | refine vIfV_of ?_ ?_) <;> intro _ | refine And.intro (by omega) ?_ | refine drawn_q ?_ | fail)
    refine vc_loop W100_1 (fun bs : Nat => [(6, .int .i64 (bs : Int))])
      (fun bs w' => 20 ≤ bs ∧ bs ≤ 2000000 ∧ ∃ cur, cur.length = N ∧ Bs elt bs cur ∧ Stb elt l cur ∧ Sw w' B B' g c L cur ∧ Chg w w' [g]) (fun bs => N - bs) 20 (by decide) ?_ ?_ ?_
    · simp (disch := omega) only [push_cast, ↓reduceIte, zA, zG, zB, zH, zI, zC, zJ, zK, zL, zD, zE, zF, zM, zN, zO, zP, zQ, reduceCtorEq, not_true_eq_false, not_false_eq_true]
    · exact ⟨by omega, by omega, cur, hlen, bP', tl', h2, c12⟩
    clear hlen bP' tl' h2 c12
    rintro bs uu2 w3 ⟨hb1, hb2, cur, hlen, bC, tC, h3, c3⟩
    by_cases hbn : bs < N
    · repeat' (first | (simp (disch := omega) only [push_cast, ↓reduceIte, zA, zG, zB, zH, zI, zC, zJ, zK, zL, zD, zE, zF, zM, zN, zO, zP, zQ, reduceCtorEq, not_true_eq_false, not_false_eq_true]) | (first | refine vIfE_of ?_ ?_ | refine vIfD_of ?_ ?_ | refine vIfQ_of ?_ ?_ | refine vIfV_of ?_ ?_) <;> intro _ | refine And.intro (by omega) ?_ | refine drawn_q ?_ | fail)
      refine vc_loop W100_2 (fun A : Nat => [(7, .int .i64 (A : Int)), (8, .int .i64 ((A : Int) + 2 * (bs : Int)))])
        (fun A w' => (∃ k, A = k * (bs + bs)) ∧ ∃ P R, P.length = A ∧ P.length + R.length = N ∧ Bs elt (bs + bs) P ∧ Bs elt bs R ∧ Stb elt l (P ++ R) ∧ Sw w' B B' g c L (P ++ R) ∧ Chg w w' [g]) (fun A => N - A) 0 (by decide) ?_ ?_ ?_
      · simp (disch := omega) only [push_cast, ↓reduceIte, zA, zG, zB, zH, zI, zC, zJ, zK, zL, zD, zE, zF, zM, zN, zO, zP, zQ, reduceCtorEq, not_true_eq_false, not_false_eq_true, Int.zero_add]
      · exact ⟨⟨0, by simp⟩, [], cur, rfl, by simp [hlen], Bs.nil, bC, tC, h3, c3⟩
      clear hlen bC tC h3 c3
      rintro A uu3 w4 ⟨⟨k, hk⟩, P, R, hP, hPR, bP, bR, tl, h4, c4⟩
      by_cases hlt : A + 2 * bs ≤ N
      · have hR := bs_take bs R (by omega)
        obtain ⟨s1, s2, s3⟩ := bR.two
        have n1 : (R.take bs).length = bs := by rw [List.length_take]; omega
        have n2 : ((R.drop bs).take bs).length = bs := by rw [List.length_take, List.length_drop]; omega
        have n3 : (R.drop (bs + bs)).length = R.length - (bs + bs) := List.length_drop
        generalize R.take bs = U at *
        generalize (R.drop bs).take bs = V at *
        generalize R.drop (bs + bs) = Y at *
        have hRl : R.length = (U ++ V ++ Y).length := congrArg List.length hR
        rw [hR] at tl h4
        have hi := symMerge_c (2 * bs) B B' g c L P U V Y A (A + bs) (A + 2 * bs) w4 (by omega) (by simpa using h4) hP (by omega) (by omega) (by omega) (by omega) s1 s2
        rw [show (P ++ (U ++ V) ++ Y).length = N by simp only [List.length_append] at *; omega, show ((A + bs : Nat) : Int) = (A : Int) + (bs : Int) by omega, show ((A + 2 * bs : Nat) : Int) = (A : Int) + 2 * (bs : Int) by omega] at hi
        repeat' (first | (simp (disch := omega) only [push_cast, ↓reduceIte, zA, zG, zB, zH, zI, zC, zJ, zK, zL, zD, zE, zF, zM, zN, zO, zP, zQ, reduceCtorEq, not_true_eq_false, not_false_eq_true]) | (first | refine vIfE_of ?_ ?_ | refine vIfD_of ?_ ?_ | refine vIfQ_of ?_ ?_ | refine vIfV_of ?_ ?_) <;> intro _ | refine And.intro (by omega) ?_ | refine drawn_q ?_ | fail)
        refine hi.mono ?_
        rintro _ w5 ⟨Z, sZ, tZ, h5, c5⟩
        have hl' := tZ.1
        rw [List.length_append] at hl'
        have hk1 : (k + 1) * (bs + bs) = k * (bs + bs) + (bs + bs) := by rw [Nat.add_mul]; omega
        repeat' (first | (simp (disch := omega) only [push_cast, ↓reduceIte, zA, zG, zB, zH, zI, zC, zJ, zK, zL, zD, zE, zF, zM, zN, zO, zP, zQ, reduceCtorEq, not_true_eq_false, not_false_eq_true]) | (first | refine vIfE_of ?_ ?_ | refine vIfD_of ?_ ?_ | refine vIfQ_of ?_ ?_ | refine vIfV_of ?_ ?_) <;> intro _ | refine And.intro (by omega) ?_ | refine drawn_q ?_ | fail)
        refine ⟨rfl, A + 2 * bs, by simp (disch := omega) only [push_cast, ↓reduceIte, zA, zG, zB, zH, zI, zC, zJ, zK, zL, zD, zE, zF, zM, zN, zO, zP, zQ, reduceCtorEq, not_true_eq_false, not_false_eq_true], ⟨⟨k + 1, by omega⟩, P ++ Z, Y, by rw [List.length_append]; omega, by rw [List.length_append]; omega, bP.snoc (k := k) (by omega) sZ (by omega), s3, ?_, h5, c4.trans c5⟩, by dsimp only; omega⟩
        refine tl.trans ?_
        have := ((Stb.refl (lt := elt) P).append tZ).append (Stb.refl (lt := elt) Y)
        simpa using this
      · have fin : ∀ w5 Z, Srt elt Z → Stb elt R Z → Sw w5 B B' g c L (P ++ Z) → Chg w w5 [g] → 20 ≤ bs * 2 ∧ bs * 2 ≤ 2000000 ∧ ∃ cur, cur.length = N ∧ Bs elt (bs * 2) cur ∧ Stb elt l cur ∧ Sw w5 B B' g c L cur ∧ Chg w w5 [g] := by
          intro w5 Z sZ tZ h5 c5
          have hl' := tZ.1
          refine ⟨by omega, by omega, P ++ Z, by rw [List.length_append]; omega, ?_, tl.trans ((Stb.refl (lt := elt) P).append tZ), h5, c5⟩
          rw [show bs * 2 = bs + bs by omega]
          exact bP.snoc (k := k) (by omega) sZ (by omega)
        obtain ⟨b2, hb2'⟩ : ∃ b2, b2 = bs * 2 := ⟨_, rfl⟩
        rw [← hb2'] at fin
        have eb : (bs : Int) * 2 = (b2 : Int) := by omega
        by_cases hmn : A + bs < N
        · have hR : R = R.take bs ++ R.drop bs := (List.take_append_drop _ _).symm
          obtain ⟨s1, s2, _⟩ := bR.two
          have n1 : (R.take bs).length = bs := by rw [List.length_take]; omega
          have n2 : (R.drop bs).length = R.length - bs := List.length_drop
          rw [List.take_of_length_le (by omega)] at s2
          generalize R.take bs = U at *
          generalize R.drop bs = V at *
          have h4' : Sw w4 B B' g c L (P ++ (U ++ V) ++ []) := by rw [← hR]; simpa using h4
          have hi := symMerge_c (N - A) B B' g c L P U V [] A (A + bs) N w4 rfl h4' hP (by omega) (by omega) (by omega) (by omega) s1 s2
          rw [show (P ++ (U ++ V) ++ ([] : List El)).length = N by rw [← hR]; simp only [List.length_append, List.length_nil]; omega, show ((A + bs : Nat) : Int) = (A : Int) + (bs : Int) by omega] at hi
          repeat' (first | (simp (disch := omega) only [push_cast, ↓reduceIte, zA, zG, zB, zH, zI, zC, zJ, zK, zL, zD, zE, zF, zM, zN, zO, zP, zQ, reduceCtorEq, not_true_eq_false, not_false_eq_true]) | (first | refine vIfE_of ?_ ?_ | refine vIfD_of ?_ ?_ | refine vIfQ_of ?_ ?_ | refine vIfV_of ?_ ?_) <;> intro _ | refine And.intro (by omega) ?_ | refine drawn_q ?_ | fail)
          refine hi.mono ?_
          rintro _ w5 ⟨Z, sZ, tZ, h5, c5⟩
          rw [List.append_nil] at h5
          rw [← hR] at tZ
          have hf := fin w5 Z sZ tZ h5 (c4.trans c5)
          repeat' (first | (simp (disch := omega) only [push_cast, ↓reduceIte, zA, zG, zB, zH, zI, zC, zJ, zK, zL, zD, zE, zF, zM, zN, zO, zP, zQ, reduceCtorEq, not_true_eq_false, not_false_eq_true, eb]) | (first | refine vIfE_of ?_ ?_ | refine vIfD_of ?_ ?_ | refine vIfQ_of ?_ ?_ | refine vIfV_of ?_ ?_) <;> intro _ | refine And.intro (by omega) ?_ | refine drawn_q ?_ | fail)
          exact ⟨rfl, b2, by simp (disch := omega) only [push_cast, ↓reduceIte, zA, zG, zB, zH, zI, zC, zJ, zK, zL, zD, zE, zF, zM, zN, zO, zP, zQ, reduceCtorEq, not_true_eq_false, not_false_eq_true, eb], hf, by dsimp only; omega⟩
        · have hf := fin w4 R (bR.whole (by omega)) (Stb.refl _) h4 c4
          repeat' (first | (simp (disch := omega) only [push_cast, ↓reduceIte, zA, zG, zB, zH, zI, zC, zJ, zK, zL, zD, zE, zF, zM, zN, zO, zP, zQ, reduceCtorEq, not_true_eq_false, not_false_eq_true, eb]) | (first | refine vIfE_of ?_ ?_ | refine vIfD_of ?_ ?_ | refine vIfQ_of ?_ ?_ | refine vIfV_of ?_ ?_) <;> intro _ | refine And.intro (by omega) ?_ | refine drawn_q ?_ | fail)
          exact ⟨rfl, b2, by simp (disch := omega) only [push_cast, ↓reduceIte, zA, zG, zB, zH, zI, zC, zJ, zK, zL, zD, zE, zF, zM, zN, zO, zP, zQ, reduceCtorEq, not_true_eq_false, not_false_eq_true, eb], hf, by dsimp only; omega⟩
    · have hf : ∃ l', Srt elt l' ∧ Stb elt l l' ∧ Sw w3 B B' g c L l' ∧ Chg w w3 [g] := ⟨cur, bC.whole (by omega), tC, h3, c3⟩
      repeat' (first | (simp (disch := omega) only [push_cast, ↓reduceIte, zA, zG, zB, zH, zI, zC, zJ, zK, zL, zD, zE, zF, zM, zN, zO, zP, zQ, reduceCtorEq, not_true_eq_false, not_false_eq_true]) | (first | refine vIfE_of ?_ ?_ | refine vIfD_of ?_ ?_ | refine vIfQ_of ?_ ?_ | refine vIfV_of ?_ ?_) <;> intro _ | refine And.intro (by omega) ?_ | refine drawn_q ?_ | fail)
      exact hf
theorem sortStable_c (B B' g c : Nat) (L l : List El) (w : World) (h : Sw w B B' g c L l) :
    FnC Try.prog 70 #[.slice (some ⟨g, 0, none⟩) l.length c, cmpV] w fun r w' => ∃ l', Srt elt l' ∧ Stb elt l l' ∧ Sw w' B B' g c L l' ∧ Chg w w' [g] := by
  refine enter70 _ _ ?_
  unfold B70
  repeat' (first | (simp (disch := omega) only [push_cast, ↓reduceIte, zA, zG, zB, zH, zI, zC, zJ, zK, zL, zD, zE, zF, zM, zN, zO, zP, zQ, reduceCtorEq, not_true_eq_false, not_false_eq_true]) | (first | refine vIfE_of ?_ ?_ | refine vIfD_of ?_ ?_ | refine vIfQ_of ?_ ?_ | refine vIfV_of ?_ ?_) <;> intro _ | refine And.intro (by omega) ?_ | refine drawn_q ?_ | fail)
  refine (stable_c B B' g c L l w h).mono ?_
  rintro _ w1 h1
  repeat' (first | (simp (disch := omega) only [push_cast, ↓reduceIte, zA, zG, zB, zH, zI, zC, zJ, zK, zL, zD, zE, zF, zM, zN, zO, zP, zQ, reduceCtorEq, not_true_eq_false, not_false_eq_true]) | (first | refine vIfE_of ?_ ?_ | refine vIfD_of ?_ ?_ | refine vIfQ_of ?_ ?_ | refine vIfV_of ?_ ?_) <;> intro _ | refine And.intro (by omega) ?_ | refine drawn_q ?_ | fail)
  exact h1
end Go.Proofs.Ythihbgpaoldbjaa
end
section
set_option linter.unusedSimpArgs false
namespace Go.Fold
open Go.Stab Go.Proofs.Ythihbgpaoldbjaa
theorem Res.stb {l l' : List R} (hs : Stb rlt l l') : (Bad l' → Bad l) ∧ ∀ out, F l' out → F l out := by
  constructor
  · rintro ⟨x, hx, hn⟩
    exact ⟨x, (hs.mem rlt_swo x).1 hx, by rw [← hs.2]; exact hn⟩
  · intro out h
    exact ⟨h.srt, fun x hx => h.nil x (by rw [hs.2]; exact hx), fun x hx => by
      obtain ⟨z, h1, h2⟩ := h.one x (by rw [hs.2]; exact hx)
      exact ⟨z, by rw [← hs.2]; exact h1, h2⟩⟩
theorem stb_abs {l l' : List El} (h : Stb elt l l') : Stb rlt (l.map El.abs) (l'.map El.abs) := by
  refine ⟨by simp [h.1], fun q => ?_⟩
  have e : ∀ m : List El, (m.map El.abs).filter (eqv rlt q) = (m.filter (eqv elt ⟨q.1, q.2.1, q.2.2.1, q.2.2.2, .slice none 0 0, .slice none 0 0⟩)).map El.abs := by
    intro m
    rw [List.filter_map]
    rfl
  rw [e, e, h.2]
/-- What is in the list that is folded to is of a key of the list. -/
theorem F.mem {l out : List R} (h : F l out) {z : R} (hz : z ∈ out) : ∃ y ∈ l, Same z y := by
  have hne : l.filter (eqv rlt z) ≠ [] := fun he => by
    have := h.nil z he
    exact mem_ne hz this
  obtain ⟨y, hy⟩ := List.exists_mem_of_ne_nil _ hne
  obtain ⟨hy, he⟩ := List.mem_filter.1 hy
  exact ⟨y, hy, eqv_same.1 he⟩
/-- A row good to be joined with others of its kind. -/
def Gd (D A : Nat) (q : R) : Prop := 1 ≤ q.2.2.1 ∧ q.2.2.1 ≤ 1048576 ∧ (∀ a ∈ q.2.2.2, ARt a) ∧ q.2.1.length = D ∧ q.2.2.2.length = A ∧ D ≤ 1000 ∧ A ≤ 1000
theorem Gd.rr {D A : Nat} {e : El} (h : Gd D A e.abs) : Rr e ∧ e.d.length = D ∧ e.a.length = A := by
  obtain ⟨h1, h2, h3, h4, h5, h6, h7⟩ := h
  have h4' : e.d.length = D := h4
  have h5' : e.a.length = A := h5
  exact ⟨⟨h1, h2, h3, by omega, by omega⟩, h4', h5'⟩
theorem Gd.join {D A : Nat} {x y z : El} (hx : Gd D A x.abs) (hy : Gd D A y.abs) (h : jn x.abs y.abs = some z.abs) : Gd D A z.abs := by
  obtain ⟨r1, d1, a1⟩ := hx.rr
  obtain ⟨r2, d2, a2⟩ := hy.rr
  obtain ⟨r3, d3, a3⟩ := JR.rr (q := z.abs) r1 r2 (by omega) h
  have d3' : z.abs.2.1.length = D := by show z.d.length = D; omega
  have a3' : z.abs.2.2.2.length = A := by show z.a.length = A; omega
  exact ⟨r3.n1, r3.n2, r3.ag, d3', a3', hx.2.2.2.2.2.1, hx.2.2.2.2.2.2⟩
end Go.Fold
namespace Go.Proofs.Ythihbgpaoldbjaa
open Go.Vc Go.Key Go.Stab Go.Fold
set_option maxRecDepth 100000
/-- What Join answers, as a tuple; the row of it; the error of it. -/
def JV (B : Nat) (z r : El) (v : Value) (w : World) : Prop := ∃ q e, v = .tuple #[elV q, .int .i64 e] ∧ JR z r q e ∧ EO w B q
def JE (B : Nat) (z r : El) (v : Value) (w : World) : Prop := ∃ q e, v = elV q ∧ JR z r q e ∧ EO w B q
def eJ (z r : El) : Int := if (jn z.abs r.abs).isSome then 0 else 121
theorem eJ_is {z r q : El} {e : Int} (hc : ecmp z r = 0) (h : JR z r q e) : eJ z r = e := by
  unfold eJ
  rcases h with ⟨h1, _⟩ | ⟨_, h2, h3, _⟩ | ⟨_, h2, h3⟩
  · exact absurd hc h1
  · rw [h2, h3]; rfl
  · rw [h3, h2]; rfl
theorem stb_jv (w0 : World) (B : Nat) (z r : El) : Stb w0 (JV B z r) := by
  rintro v w w' _ hl ⟨q, e, h1, h2, h3⟩
  exact ⟨q, e, h1, h2, h3.later hl⟩
theorem stb_je (w0 : World) (B : Nat) (z r : El) : Stb w0 (JE B z r) := by
  rintro v w w' _ hl ⟨q, e, h1, h2, h3⟩
  exact ⟨q, e, h1, h2, h3.later hl⟩
theorem exe_ext {P : Program} {t i : Nat} {ty : TypeId} {σ : Env} {w : World} {cs : Array Value} {u : Value} (h : σ t = .tuple cs) (hu : cs[i]? = some u) : exe P (.extract (.tmp t) i) ty σ w = .ok (.value u) w := by
  unfold exe
  simp [execOp, ev, h, hu, val, Instr.extract]
theorem nR_ext {P : Program} {t i : Nat} {ty : TypeId} {rs : List Nat} {Ns : NS} {σ : Env} {w : World} {Kv : Value → Prop} {Kn : (Value → World → Prop) → Prop} {V V' : Value → World → Prop} (ht : t ∈ rs) (hf : findN t Ns = some V) (hV' : Stb w V')
    (h : ∀ v w', V v w' → ∃ cs : Array Value, v = .tuple cs ∧ ∃ u, cs[i]? = some u ∧ V' u w') (hk : Kn V') : nR P (.extract (.tmp t) i) ty rs Ns σ w Kv Kn :=
  .inr ⟨V', hV', fun σ' w' _ hp => by
    obtain ⟨cs, h1, u, h2, h3⟩ := h _ _ (psis_V hp ht hf)
    exact nUp_pure (v := u) (exe_ext h1 h2) h3, hk⟩
theorem nR_extc {P : Program} {t i : Nat} {ty : TypeId} {rs : List Nat} {Ns : NS} {σ : Env} {w : World} {Kv : Value → Prop} {Kn : (Value → World → Prop) → Prop} {V : Value → World → Prop} {u : Value} (ht : t ∈ rs) (hf : findN t Ns = some V)
    (h : ∀ v w', V v w' → ∃ cs : Array Value, v = .tuple cs ∧ cs[i]? = some u) (hk : Kv u) : nR P (.extract (.tmp t) i) ty rs Ns σ w Kv Kn :=
  .inl ⟨u, fun σ' w' _ hp => by
    obtain ⟨cs, h1, h2⟩ := h _ _ (psis_V hp ht hf)
    exact nUp_pure (v := u) (exe_ext h1 h2) rfl, hk⟩
/-- What either Fold answers. -/
def FoldR (D A : Nat) (w : World) (B : Nat) (v : Value) (e : Int) (l : List R) : Prop := (e = 121 ∧ v = .slice none 0 0 ∧ Bad l) ∨ (e = 0 ∧ ∃ es, OwnE w B v es ∧ F l (es.map El.abs) ∧ ∀ z ∈ es, EO w B z ∧ Gd D A z.abs)
theorem ins0_c (w : World) : FnC Try.prog 109 #[.slice none 0 0, .int .i64 0, .int .i64 0, cmpV] w fun r w' => w' = w := by
  refine enter109 _ _ _ _ ?_
  unfold B109
  repeat' (first | (simp (disch := omega) only [push_cast, ↓reduceIte, zA, zG, zB, zH, zI, zC, zJ, zK, zL, zD, zE, zF, zM, zN, zO, zP, zQ, reduceCtorEq, not_true_eq_false, not_false_eq_true]) | (first | refine vIfE_of ?_ ?_ | refine vIfD_of ?_ ?_ | refine vIfQ_of ?_ ?_ | refine vIfV_of ?_ ?_) <;> intro _ | refine And.intro (by omega) ?_ | refine drawn_q ?_ | fail)
  refine vc_loop W109_0 (fun _ : Nat => [(8, .int .i64 1)]) (fun _ w' => w' = w) (fun i => i) 0 (by decide) ?_ ?_ ?_
  · simp (disch := omega) only [push_cast, ↓reduceIte, zA, zG, zB, zH, zI, zC, zJ, zK, zL, zD, zE, zF, zM, zN, zO, zP, zQ, reduceCtorEq, not_true_eq_false, not_false_eq_true]
  · rfl
  rintro i uu w1 hw
  obtain rfl := hw.symm
  repeat' (first | (simp (disch := omega) only [push_cast, ↓reduceIte, zA, zG, zB, zH, zI, zC, zJ, zK, zL, zD, zE, zF, zM, zN, zO, zP, zQ, reduceCtorEq, not_true_eq_false, not_false_eq_true]) | (first | refine vIfE_of ?_ ?_ | refine vIfD_of ?_ ?_ | refine vIfQ_of ?_ ?_ | refine vIfV_of ?_ ?_) <;> intro _ | refine And.intro (by omega) ?_ | refine drawn_q ?_ | fail)
  all_goals rfl
theorem stable0_c (w : World) : FnC Try.prog 100 #[.slice none 0 0, .int .i64 0, cmpV] w fun r w' => w' = w := by
  refine enter100 _ _ _ ?_
  unfold B100
  repeat' (first | (simp (disch := omega) only [push_cast, ↓reduceIte, zA, zG, zB, zH, zI, zC, zJ, zK, zL, zD, zE, zF, zM, zN, zO, zP, zQ, reduceCtorEq, not_true_eq_false, not_false_eq_true]) | (first | refine vIfE_of ?_ ?_ | refine vIfD_of ?_ ?_ | refine vIfQ_of ?_ ?_ | refine vIfV_of ?_ ?_) <;> intro _ | refine And.intro (by omega) ?_ | refine drawn_q ?_ | fail)
  refine vc_loop W100_0 (fun _ : Nat => [(7, .int .i64 0), (8, .int .i64 20)]) (fun _ w' => w' = w) (fun i => i) 0 (by decide) ?_ ?_ ?_
  · simp (disch := omega) only [push_cast, ↓reduceIte, zA, zG, zB, zH, zI, zC, zJ, zK, zL, zD, zE, zF, zM, zN, zO, zP, zQ, reduceCtorEq, not_true_eq_false, not_false_eq_true]
  · rfl
  rintro i uu w1 hw
  obtain rfl := hw.symm
  repeat' (first | (simp (disch := omega) only [push_cast, ↓reduceIte, zA, zG, zB, zH, zI, zC, zJ, zK, zL, zD, zE, zF, zM, zN, zO, zP, zQ, reduceCtorEq, not_true_eq_false, not_false_eq_true]) | (first | refine vIfE_of ?_ ?_ | refine vIfD_of ?_ ?_ | refine vIfQ_of ?_ ?_ | refine vIfV_of ?_ ?_) <;> intro _ | refine And.intro (by omega) ?_ | refine drawn_q ?_ | fail)
  refine (ins0_c w).mono ?_
  rintro _ w1 hw
  obtain rfl := hw.symm
  repeat' (first | (simp (disch := omega) only [push_cast, ↓reduceIte, zA, zG, zB, zH, zI, zC, zJ, zK, zL, zD, zE, zF, zM, zN, zO, zP, zQ, reduceCtorEq, not_true_eq_false, not_false_eq_true]) | (first | refine vIfE_of ?_ ?_ | refine vIfD_of ?_ ?_ | refine vIfQ_of ?_ ?_ | refine vIfV_of ?_ ?_) <;> intro _ | refine And.intro (by omega) ?_ | refine drawn_q ?_ | fail)
  refine vc_loop W100_1 (fun _ : Nat => [(6, .int .i64 20)]) (fun _ w' => w' = w) (fun i => i) 0 (by decide) ?_ ?_ ?_
  · simp (disch := omega) only [push_cast, ↓reduceIte, zA, zG, zB, zH, zI, zC, zJ, zK, zL, zD, zE, zF, zM, zN, zO, zP, zQ, reduceCtorEq, not_true_eq_false, not_false_eq_true]
  · rfl
  rintro i uu w1 hw
  obtain rfl := hw.symm
  repeat' (first | (simp (disch := omega) only [push_cast, ↓reduceIte, zA, zG, zB, zH, zI, zC, zJ, zK, zL, zD, zE, zF, zM, zN, zO, zP, zQ, reduceCtorEq, not_true_eq_false, not_false_eq_true]) | (first | refine vIfE_of ?_ ?_ | refine vIfD_of ?_ ?_ | refine vIfQ_of ?_ ?_ | refine vIfV_of ?_ ?_) <;> intro _ | refine And.intro (by omega) ?_ | refine drawn_q ?_ | fail)
  all_goals rfl
/-- Rows sorted, whether there are any or not. -/
theorem sortAny_c (B : Nat) (v : Value) (es : List El) (w : World) (ho : OwnE w B v es) (hE : ∀ e ∈ es, EO w B e) (hl : es.length ≤ 1000000) : FnC Try.prog 70 #[v, cmpV] w fun r w' =>
    ∃ l', Srt elt l' ∧ Stb elt es l' ∧ RecS elC 4 w' v l' ∧ (∀ e ∈ l', EO w' B e) ∧ ∀ w0, Later w0 w → w0.heap.size ≤ B → Later w0 w' := by
  obtain ⟨o, c, rfl, _⟩ := RecS.slice (OwnR.s ho)
  cases o with
  | none =>
    obtain ⟨hn, hc0⟩ := (SlN.len (OwnR.s ho)).2.2.2.2 rfl
    have hn : es = [] := List.length_eq_zero_iff.1 hn
    subst hn
    have hc0 : c = 0 := hc0
    subst hc0
    refine enter70 _ _ ?_
    unfold B70
    simp only [List.length_nil]
    repeat' (first | (simp (disch := omega) only [push_cast, ↓reduceIte, zA, zG, zB, zH, zI, zC, zJ, zK, zL, zD, zE, zF, zM, zN, zO, zP, zQ, reduceCtorEq, not_true_eq_false, not_false_eq_true]) | (first | refine vIfE_of ?_ ?_ | refine vIfD_of ?_ ?_ | refine vIfQ_of ?_ ?_ | refine vIfV_of ?_ ?_) <;> intro _ | refine And.intro (by omega) ?_ | refine drawn_q ?_ | fail)
    refine (stable0_c w).mono ?_
    rintro _ w1 hw
    obtain rfl := hw.symm
    repeat' (first | (simp (disch := omega) only [push_cast, ↓reduceIte, zA, zG, zB, zH, zI, zC, zJ, zK, zL, zD, zE, zF, zM, zN, zO, zP, zQ, reduceCtorEq, not_true_eq_false, not_false_eq_true]) | (first | refine vIfE_of ?_ ?_ | refine vIfD_of ?_ ?_ | refine vIfQ_of ?_ ?_ | refine vIfV_of ?_ ?_) <;> intro _ | refine And.intro (by omega) ?_ | refine drawn_q ?_ | fail)
    exact ⟨[], srt_nil, Stb.refl _, RecS.nil _, by simp, fun w0 h _ => h⟩
  | some a =>
    obtain ⟨g, rfl, hB, _, ⟨cs, hb⟩, _⟩ := own_writes ho
    refine (sortStable_c B B g c es es w ⟨ho, hE, fun _ h => h, hl⟩).mono ?_
    rintro _ w1 ⟨l', s1, s2, s3, s4⟩
    have hl' := s2.1
    refine ⟨l', s1, s2, ?_, fun e he => s3.els e (s3.sub e he), fun w0 h hw0 => Chg.later h s4 (by intro j hj; rw [List.mem_singleton.1 hj]; omega)⟩
    rw [← hl']
    exact OwnR.s s3.own
set_option maxHeartbeats 1000000 in
theorem rfold_c (D A : Nat) (v : Value) (l : List El) (w : World) (h : RecS elC 4 w v l) (hes : ∀ e ∈ l, EIs w e ∧ Gd D A e.abs) (hl : l.length ≤ 100000) : FnC Try.prog 31 #[v] w fun r w' =>
    ∃ vv e, r = .tuple #[vv, .int .i64 e] ∧ FoldR D A w' w.heap.size vv e (l.map El.abs) ∧ Later w w' := by
  refine enter31 _ ?_
  unfold B31
  repeat' (first | (simp (disch := omega) only [push_cast, ↓reduceIte, zA, zG, zB, zH, zI, zC, zJ, zK, zL, zD, zE, zF, zM, zN, zO, zP, zQ, reduceCtorEq, not_true_eq_false, not_false_eq_true]) | (first | refine vIfE_of ?_ ?_ | refine vIfD_of ?_ ?_ | refine vIfQ_of ?_ ?_ | refine vIfV_of ?_ ?_) <;> intro _ | refine And.intro (by omega) ?_ | refine drawn_q ?_ | fail)
  refine (copy_c v l w h (fun e he => ⟨(hes e he).1, by have := (hes e he).2.rr.1.dl; omega, by have := (hes e he).2.rr.1.al; omega⟩) hl).mono ?_
  rintro cv w1 ⟨⟨es, ho, hab, hE⟩, l1⟩
  have hel : es.length = l.length := by have := congrArg List.length hab; simpa using this
  repeat' (first | (simp (disch := omega) only [push_cast, ↓reduceIte, zA, zG, zB, zH, zI, zC, zJ, zK, zL, zD, zE, zF, zM, zN, zO, zP, zQ, reduceCtorEq, not_true_eq_false, not_false_eq_true]) | (first | refine vIfE_of ?_ ?_ | refine vIfD_of ?_ ?_ | refine vIfQ_of ?_ ?_ | refine vIfV_of ?_ ?_) <;> intro _ | refine And.intro (by omega) ?_ | refine drawn_q ?_ | fail)
  refine (sortAny_c w.heap.size cv es w1 ho hE (by omega)).mono ?_
  rintro _ w2 ⟨l', sL, tL, rL, eL, hlat⟩
  have l02 := hlat w l1 (Nat.le_refl _)
  have hl' := tL.1
  have hst : Stb rlt (l.map El.abs) (l'.map El.abs) := by rw [← hab]; exact stb_abs tL
  have gL : ∀ e ∈ l', Gd D A e.abs := by
    intro e he
    have : e.abs ∈ l.map El.abs := (hst.mem rlt_swo _).1 (List.mem_map_of_mem he)
    obtain ⟨e0, h0, h1⟩ := List.mem_map.1 this
    rw [← h1]; exact (hes e0 h0).2
  obtain ⟨o, c, hcv, _⟩ := RecS.slice (OwnR.s ho)
  have rL' := rL
  rw [hcv, ← hl'] at rL'
  rw [hcv, ← hl']
  clear ho hE hcv rL
  repeat' (first | (simp (disch := omega) only [push_cast, ↓reduceIte, zA, zG, zB, zH, zI, zC, zJ, zK, zL, zD, zE, zF, zM, zN, zO, zP, zQ, reduceCtorEq, not_true_eq_false, not_false_eq_true]) | (first | refine vIfE_of ?_ ?_ | refine vIfD_of ?_ ?_ | refine vIfQ_of ?_ ?_ | refine vIfV_of ?_ ?_) <;> intro _ | refine And.intro (by omega) ?_ | refine drawn_q ?_ | fail)
  refine vc_loop W31_0 (fun p : Nat × Value => [(4, p.2), (16, .int .i64 (p.1 : Int))])
    (fun p w' => p.1 ≤ l'.length ∧ Later w2 w' ∧ ∃ os, OwnE w' w2.heap.size p.2 os ∧ os.length ≤ p.1 ∧ F ((l'.take p.1).map El.abs) (os.map El.abs) ∧ ∀ z ∈ os, EO w' w.heap.size z ∧ Gd D A z.abs) (fun p => l'.length - p.1) (0, .slice none 0 0) (by decide) ?_ ?_ ?_
  · simp (disch := omega) only [push_cast, ↓reduceIte, zA, zG, zB, zH, zI, zC, zJ, zK, zL, zD, zE, zF, zM, zN, zO, zP, zQ, reduceCtorEq, not_true_eq_false, not_false_eq_true]
  · exact ⟨by omega, Later.refl _, [], OwnR.nil _ _ _, by simp, F.start, by simp⟩
  rintro ⟨i, ov⟩ uu w3 ⟨hi, l3, os, hO, hosl, hF, hZ⟩
  dsimp only at hi hO hF hosl
  have l03 := l02.trans l3
  by_cases hlt : i < l'.length
  · obtain ⟨aa, rfl, f1⟩ := RecS.at elC_len (rL'.later l3) hlt
    have hEr := (eL l'[i] (List.getElem_mem _)).later l3
    have hGr := gL l'[i] (List.getElem_mem _)
    have htk : (l'.take (i + 1)).map El.abs = (l'.take i).map El.abs ++ [l'[i].abs] := by rw [take_snoc l' i hlt, List.map_append]; rfl
    have hord : ∀ y ∈ l'.take i, elt l'[i] y = false := by
      intro y hy
      obtain ⟨j, hj, rfl⟩ := List.getElem_of_mem hy
      rw [List.length_take] at hj
      rw [List.getElem_take]
      exact List.pairwise_iff_getElem.1 sL j i (by omega) hlt (by omega)
    have hbad : Bad ((l'.take (i + 1)).map El.abs) → Bad (l.map El.abs) := by
      intro hb
      have := hb.more ((l'.drop (i + 1)).map El.abs)
      rw [← List.map_append, List.take_append_drop] at this
      exact (Res.stb hst).1 this
    generalize hr : l'[i] = r at *
    obtain ⟨oo, oc, hov, hoc, _⟩ := RecS.slice (OwnR.s hO)
    subst hov
    repeat' (first | (simp (disch := omega) only [push_cast, ↓reduceIte, zA, zG, zB, zH, zI, zC, zJ, zK, zL, zD, zE, zF, zM, zN, zO, zP, zQ, reduceCtorEq, not_true_eq_false, not_false_eq_true, f1]) | (first | refine vIfE_of ?_ ?_ | refine vIfD_of ?_ ?_ | refine vIfQ_of ?_ ?_ | refine vIfV_of ?_ ?_) <;> intro _ | refine And.intro (by omega) ?_ | refine drawn_q ?_ | fail)
    refine vStore_new rfl rfl (by simpa using elC_one hEr.is) ?_
    have l4 := later_alloc w3 (.cells (elC r).toArray 35)
    have B4 := Blk.new w3 (elC r).toArray 35
    generalize w3.alloc (.cells (elC r).toArray 35) = w4 at *
    generalize w3.heap.size = k4 at *
    have f4 : cellsAt w4 ⟨k4, 0, none⟩ 4 = some (elC r) := Blk.cellsAt (l := elC r) B4
    have f4' : cellsAt w4 ⟨k4, 0, none⟩ 4 = some [.int .i64 r.t, r.dv, .int .i64 r.n, r.av] := f4
    have hle : ∀ q ∈ os, rlt r.abs q.abs = false := by
      intro q hq
      obtain ⟨y, hy, hs⟩ := hF.mem (List.mem_map_of_mem hq)
      obtain ⟨y0, hy0, rfl⟩ := List.mem_map.1 hy
      rw [rlt_r hs]
      exact hord y0 hy0
    rcases List.eq_nil_or_concat os with hn | ⟨T, z, hn⟩
    · subst hn
      simp only [List.length_nil]
      repeat' (first | (simp (disch := omega) only [push_cast, ↓reduceIte, zA, zG, zB, zH, zI, zC, zJ, zK, zL, zD, zE, zF, zM, zN, zO, zP, zQ, reduceCtorEq, not_true_eq_false, not_false_eq_true]) | (first | refine vIfE_of ?_ ?_ | refine vIfD_of ?_ ?_ | refine vIfQ_of ?_ ?_ | refine vIfV_of ?_ ?_) <;> intro _ | refine And.intro (by omega) ?_ | refine drawn_q ?_ | fail)
      intro w5 l5
      have f5 := cellsAt_later l5 4 f4'
      repeat' (first | (simp (disch := omega) only [push_cast, ↓reduceIte, zA, zG, zB, zH, zI, zC, zJ, zK, zL, zD, zE, zF, zM, zN, zO, zP, zQ, reduceCtorEq, not_true_eq_false, not_false_eq_true, f5]) | (first | refine vIfE_of ?_ ?_ | refine vIfD_of ?_ ?_ | refine vIfQ_of ?_ ?_ | refine vIfV_of ?_ ?_) <;> intro _ | refine And.intro (by omega) ?_ | refine drawn_q ?_ | fail)
      have la := later_alloc w5 (.cells #[.int .i64 r.t, r.dv, .int .i64 r.n, r.av] 35)
      have Bl := Blk.new w5 #[.int .i64 r.t, r.dv, .int .i64 r.n, r.av] 35
      have l45 := (l4.trans l5).trans la
      have hO5 := hO.later l45
      have hE5 := hEr.later l45
      refine vAppend_e (r := [r]) hO5 (RecS.lit1 (elC_len r) Bl) (by intro q hq; rw [List.mem_singleton.1 hq]; exact hE5.is) (by simp only [List.length_append, List.length_cons, List.length_nil] at *; omega) (Nat.le_trans l3.size l45.size) ?_
      intro v' w6 ho6 hg _
      have l26 := (l3.trans l45).appended hO5 (Nat.le_refl _) hg
      have hF6 : F ((l'.take (i + 1)).map El.abs) ((([] : List El) ++ [r]).map El.abs) := by
        rw [htk, List.map_append, List.map_singleton]
        exact F.add (A := ([] : List El).map El.abs) (B := []) (by simpa using hF) (by simp) (by simp)
      have hZ6 : ∀ q ∈ ([] : List El) ++ [r], EO w6 w.heap.size q ∧ Gd D A q.abs := by
        intro q hq
        rcases List.mem_append.1 hq with hq | hq
        · exact ⟨((hZ q hq).1.later l45).grown hO5 hg, (hZ q hq).2⟩
        · rw [List.mem_singleton.1 hq]; exact ⟨hE5.grown hO5 hg, hGr⟩
      repeat' (first | (simp (disch := omega) only [push_cast, ↓reduceIte, zA, zG, zB, zH, zI, zC, zJ, zK, zL, zD, zE, zF, zM, zN, zO, zP, zQ, reduceCtorEq, not_true_eq_false, not_false_eq_true]) | (first | refine vIfE_of ?_ ?_ | refine vIfD_of ?_ ?_ | refine vIfQ_of ?_ ?_ | refine vIfV_of ?_ ?_) <;> intro _ | refine And.intro (by omega) ?_ | refine drawn_q ?_ | fail)
      exact ⟨rfl, (i + 1, v'), by simp (disch := omega) only [push_cast, ↓reduceIte, zA, zG, zB, zH, zI, zC, zJ, zK, zL, zD, zE, zF, zM, zN, zO, zP, zQ, reduceCtorEq, not_true_eq_false, not_false_eq_true], ⟨by dsimp only; omega, l26, ([] : List El) ++ [r], ho6, by dsimp only; simp only [List.length_append, List.length_cons, List.length_nil] at *; omega, hF6, hZ6⟩, by dsimp only; omega⟩
    · have hn : os = T ++ [z] := by simpa using hn
      subst hn
      obtain ⟨ab, rfl, fz⟩ := RecS.at elC_len (OwnR.s (hO.later l4)) (i := T.length) (by simp)
      have ez : (T ++ [z])[T.length]'(by simp) = z := by simp
      rw [ez] at fz
      have e1 : (((T ++ [z]).length : Int) - 1).toNat = T.length := by simp
      have e2 : ((T ++ [z]).length : Int) = (T.length : Int) + 1 := by simp
      have hTn : (T ++ [z]).length = T.length + 1 := by simp
      obtain ⟨hEz, hGz⟩ := hZ z (by simp)
      have hcond : ecmp z r ≠ 0 → ∀ q ∈ (T ++ [z]).map El.abs, rlt q r.abs = true := by
        intro hc
        have hz : rlt z.abs r.abs = true := by
          have h1 := hle z (by simp)
          have hk := ckey_is z.t z.d r.t r.d
          have h2 : ¬ ckey r.t r.d z.t z.d < 0 := of_decide_eq_false h1
          rcases hk with ⟨k1, k2, _⟩ | ⟨k1, _⟩ | ⟨k1, k2, _⟩
          · show decide (ckey z.t z.d r.t r.d < 0) = true
            rw [k1]; rfl
          · exact absurd k1 hc
          · rw [k2] at h2; exact absurd (by decide) h2
        intro q hq
        rw [List.map_append] at hq
        rcases List.mem_append.1 hq with hq | hq
        · have hs := hF.srt
          rw [List.map_append, List.pairwise_append] at hs
          exact rlt_swo.lt_le (hs.2.2 q hq z.abs (by simp)) (hle z (by simp))
        · simp only [List.map_singleton, List.mem_singleton] at hq
          rw [hq]; exact hz
      rw [hTn] at hosl
      have e3 : ((T.length + 1 : Nat) : Int) - 1 = (T.length : Int) := by omega
      have e4 : (T.length : Int) + 1 - 1 = (T.length : Int) := by omega
      rw [hTn]
      repeat' (first | (simp (disch := omega) only [push_cast, ↓reduceIte, zA, zG, zB, zH, zI, zC, zJ, zK, zL, zD, zE, zF, zM, zN, zO, zP, zQ, reduceCtorEq, not_true_eq_false, not_false_eq_true, e4, fz, f4]) | (first | refine vIfE_of ?_ ?_ | refine vIfD_of ?_ ?_ | refine vIfQ_of ?_ ?_ | refine vIfV_of ?_ ?_) <;> intro _ | refine And.intro (by omega) ?_ | refine drawn_q ?_ | fail)
      refine QFn.of hb34 (v := .int .i64 (ecmp z r)) (fun w' hl => rcompare_c z r w' ((hEz.later l4).is.later hl) ((hEr.later l4).is.later hl)) ?_
      by_cases hc : ecmp z r = 0
      · obtain ⟨rz, dz, az⟩ := hGz.rr
        obtain ⟨rr, dr, ar⟩ := hGr.rr
        repeat' (first | (simp (disch := omega) only [push_cast, ↓reduceIte, zA, zG, zB, zH, zI, zC, zJ, zK, zL, zD, zE, zF, zM, zN, zO, zP, zQ, reduceCtorEq, not_true_eq_false, not_false_eq_true]) | (first | refine vIfE_of ?_ ?_ | refine vIfD_of ?_ ?_ | refine vIfQ_of ?_ ?_ | refine vIfV_of ?_ ?_) <;> intro _ | refine And.intro (by omega) ?_ | refine drawn_q ?_ | fail)
        intro w5 l5
        have fz5 := cellsAt_later l5 4 fz
        have f5 := cellsAt_later l5 4 f4
        have l45 := l4.trans l5
        have hz5 := (hEz.later l45).is
        have hr5 := (hEr.later l45).is
        have hsz5 : w.heap.size ≤ w5.heap.size := (l03.trans l45).size
        repeat' (first | (simp (disch := omega) only [push_cast, ↓reduceIte, zA, zG, zB, zH, zI, zC, zJ, zK, zL, zD, zE, zF, zM, zN, zO, zP, zQ, reduceCtorEq, not_true_eq_false, not_false_eq_true]) | (first | refine vIfE_of ?_ ?_ | refine vIfD_of ?_ ?_ | refine vIfQ_of ?_ ?_ | refine vIfV_of ?_ ?_) <;> intro _ | refine And.intro (by omega) ?_ | fail)
        refine drawnS_k 11 ?_
        repeat' (first | (simp (disch := omega) only [push_cast, ↓reduceIte, zA, zG, zB, zH, zI, zC, zJ, zK, zL, zD, zE, zF, zM, zN, zO, zP, zQ, reduceCtorEq, not_true_eq_false, not_false_eq_true, e4, fz5, f5]) | (first | refine vIfE_of ?_ ?_ | refine vIfD_of ?_ ?_ | refine vIfQ_of ?_ ?_ | refine vIfV_of ?_ ?_) <;> intro _ | refine And.intro (by omega) ?_ | fail)
        refine NFn.of hb35 (JV w.heap.size z r) (stb_jv _ _ _ _) (fun w' hl => (rjoin_c z r w' (hz5.later hl) (hr5.later hl) rz rr (by omega)).mono ?_) ?_
        · rintro v w'' ⟨q, e, rfl, hj, hE, hl'⟩
          exact ⟨⟨q, e, rfl, hj, hE.base (Nat.le_trans hsz5 hl.size)⟩, hl'⟩
        repeat' (first | (simp (disch := omega) only [push_cast, ↓reduceIte, zA, zG, zB, zH, zI, zC, zJ, zK, zL, zD, zE, zF, zM, zN, zO, zP, zQ, reduceCtorEq, not_true_eq_false, not_false_eq_true]) | (first | refine vIfE_of ?_ ?_ | refine vIfD_of ?_ ?_ | refine vIfQ_of ?_ ?_ | refine vIfV_of ?_ ?_) <;> intro _ | refine And.intro (by omega) ?_ | fail)
        refine nR_move (t := 45) (by simp) rfl (stb_jv _ _ _ _) ?_
        repeat' (first | (simp (disch := omega) only [push_cast, ↓reduceIte, zA, zG, zB, zH, zI, zC, zJ, zK, zL, zD, zE, zF, zM, zN, zO, zP, zQ, reduceCtorEq, not_true_eq_false, not_false_eq_true]) | (first | refine vIfE_of ?_ ?_ | refine vIfD_of ?_ ?_ | refine vIfQ_of ?_ ?_ | refine vIfV_of ?_ ?_) <;> intro _ | refine And.intro (by omega) ?_ | fail)
        refine nR_ext (t := 38) (V := JV w.heap.size z r) (V' := JE w.heap.size z r) (by simp) rfl (stb_je _ _ _ _) (fun v w' hv => ?_) ?_
        · obtain ⟨q, e, rfl, hj, hE⟩ := hv
          exact ⟨_, rfl, elV q, rfl, q, e, rfl, hj, hE⟩
        repeat' (first | (simp (disch := omega) only [push_cast, ↓reduceIte, zA, zG, zB, zH, zI, zC, zJ, zK, zL, zD, zE, zF, zM, zN, zO, zP, zQ, reduceCtorEq, not_true_eq_false, not_false_eq_true]) | (first | refine vIfE_of ?_ ?_ | refine vIfD_of ?_ ?_ | refine vIfQ_of ?_ ?_ | refine vIfV_of ?_ ?_) <;> intro _ | refine And.intro (by omega) ?_ | fail)
        refine nR_extc (t := 38) (V := JV w.heap.size z r) (u := .int .i64 (eJ z r)) (by simp) rfl (fun v w' hv => ?_) ?_
        · obtain ⟨q, e, rfl, hj, hE⟩ := hv
          exact ⟨_, rfl, by rw [eJ_is hc hj]; rfl⟩
        repeat' (first | (simp (disch := omega) only [push_cast, ↓reduceIte, zA, zG, zB, zH, zI, zC, zJ, zK, zL, zD, zE, zF, zM, zN, zO, zP, zQ, reduceCtorEq, not_true_eq_false, not_false_eq_true]) | (first | refine vIfE_of ?_ ?_ | refine vIfD_of ?_ ?_ | refine vIfQ_of ?_ ?_ | refine vIfV_of ?_ ?_) <;> intro _ | refine And.intro (by omega) ?_ | fail)
        refine nA_of _ (PtV w5 35 #[.int .i64 0, .slice none 0 0, .int .i64 0, .slice none 0 0]) (stb_pt _ _ _ _) (fun w' hl => ?_) ?_
        · repeat' (first | (simp (disch := omega) only [push_cast, ↓reduceIte, zA, zG, zB, zH, zI, zC, zJ, zK, zL, zD, zE, zF, zM, zN, zO, zP, zQ, reduceCtorEq, not_true_eq_false, not_false_eq_true]) | (first | refine vIfE_of ?_ ?_ | refine vIfD_of ?_ ?_ | refine vIfQ_of ?_ ?_ | refine vIfV_of ?_ ?_) <;> intro _ | refine And.intro (by omega) ?_ | fail)
          exact ⟨later_alloc _ _, w'.heap.size, rfl, hl.size, Blk.new _ _ _⟩
        repeat' (first | (simp (disch := omega) only [push_cast, ↓reduceIte, zA, zG, zB, zH, zI, zC, zJ, zK, zL, zD, zE, zF, zM, zN, zO, zP, zQ, reduceCtorEq, not_true_eq_false, not_false_eq_true]) | (first | refine vIfE_of ?_ ?_ | refine vIfD_of ?_ ?_ | refine vIfQ_of ?_ ?_ | refine vIfV_of ?_ ?_) <;> intro _ | refine And.intro (by omega) ?_ | fail)
        refine ⟨rfl, fun w6 l6 => ?_⟩
        rintro _ ⟨b8, rfl, hb8, B8⟩ _ ⟨q, e, rfl, hj, hq⟩ _ ⟨q2, e2, rfl, hj2, _⟩ _ _
        have ee2 : eJ z r = e2 := eJ_is hc hj2
        have ee : eJ z r = e := eJ_is hc hj
        refine ⟨by simp (disch := omega) only [push_cast, ↓reduceIte, zA, zG, zB, zH, zI, zC, zJ, zK, zL, zD, zE, zF, zM, zN, zO, zP, zQ, reduceCtorEq, not_true_eq_false, not_false_eq_true, ee2, implies_true, and_self], ?_⟩
        unfold elV
        repeat' (first | (simp (disch := omega) only [push_cast, ↓reduceIte, zA, zG, zB, zH, zI, zC, zJ, zK, zL, zD, zE, zF, zM, zN, zO, zP, zQ, reduceCtorEq, not_true_eq_false, not_false_eq_true]) | (first | refine vIfE_of ?_ ?_ | refine vIfD_of ?_ ?_ | refine vIfQ_of ?_ ?_ | refine vIfV_of ?_ ?_) <;> intro _ | refine And.intro (by omega) ?_ | fail)
        refine vStore_blk (l := [.int .i64 0, .slice none 0 0, .int .i64 0, .slice none 0 0]) (xs := elC q) B8 rfl rfl (elC_one hq.is) ?_
        intro w7 B7 c7
        have l57 := Chg.later l6 c7 (by intro j hj; rw [List.mem_singleton.1 hj]; exact hb8)
        have hq7 := hq.chg B8 c7
        have l37 := l45.trans l57
        have hsame : Same z.abs r.abs := cmp_zero.1 hc
        have hjoin := F.join (l := (l'.take i).map El.abs) (A := T.map El.abs) (B := []) (b := z.abs) (by rw [List.map_append] at hF; exact hF) hsame
        rw [← htk] at hjoin
        rcases hj with ⟨h1, _⟩ | ⟨_, h2, h3, _⟩ | ⟨_, h2, h3⟩
        · exact absurd hc h1
        · rw [ee, h3]
          repeat' (first | (simp (disch := omega) only [push_cast, ↓reduceIte, zA, zG, zB, zH, zI, zC, zJ, zK, zL, zD, zE, zF, zM, zN, zO, zP, zQ, reduceCtorEq, not_true_eq_false, not_false_eq_true]) | (first | refine vIfE_of ?_ ?_ | refine vIfD_of ?_ ?_ | refine vIfQ_of ?_ ?_ | refine vIfV_of ?_ ?_) <;> intro _ | refine And.intro (by omega) ?_ | refine drawn_q ?_ | fail)
          exact ⟨.slice none 0 0, 121, rfl, .inl ⟨rfl, rfl, hbad (hjoin.1 h2)⟩, l03.trans l37⟩
        · rw [ee, h2]
          have f7 : cellsAt w7 ⟨b8, 0, none⟩ 4 = some (elC q) := Blk.cellsAt (l := elC q) B7
          have hO7 := hO.later l37
          rw [hTn] at hO7
          obtain ⟨g, rfl, hB, ⟨cs, hb⟩, hcan, ho8, hc8⟩ := OwnR.set elC_len hO7 (i := T.length) (by simp) q
          rw [addr_add_eq, Nat.zero_add] at hcan ho8 hc8
          repeat' (first | (simp (disch := omega) only [push_cast, ↓reduceIte, zA, zG, zB, zH, zI, zC, zJ, zK, zL, zD, zE, zF, zM, zN, zO, zP, zQ, reduceCtorEq, not_true_eq_false, not_false_eq_true, e4, f7, addr_add_eq, Nat.zero_add]) | (first | refine vIfE_of ?_ ?_ | refine vIfD_of ?_ ?_ | refine vIfQ_of ?_ ?_ | refine vIfV_of ?_ ?_) <;> intro _ | refine And.intro (by omega) ?_ | refine drawn_q ?_ | fail)
          refine ⟨rfl, by simpa [Value.cells] using elC_one hq7.is, by simpa [Value.cells] using hcan, ?_⟩
          have ex : (Value.agg (elC q).toArray).cells.toList = elC q := by simp [Value.cells]
          rw [ex]
          have hset : (T ++ [z]).set T.length q = T ++ [q] := by simp
          rw [hset] at ho8
          generalize storeAll w7 ⟨g, T.length * 4, none⟩ (elC q) = w8 at *
          have hF8 := hjoin.2 q.abs h3
          repeat' (first | (simp (disch := omega) only [push_cast, ↓reduceIte, zA, zG, zB, zH, zI, zC, zJ, zK, zL, zD, zE, zF, zM, zN, zO, zP, zQ, reduceCtorEq, not_true_eq_false, not_false_eq_true]) | (first | refine vIfE_of ?_ ?_ | refine vIfD_of ?_ ?_ | refine vIfQ_of ?_ ?_ | refine vIfV_of ?_ ?_) <;> intro _ | refine And.intro (by omega) ?_ | refine drawn_q ?_ | fail)
          refine ⟨rfl, (i + 1, .slice (some ⟨g, 0, none⟩) (T.length + 1) oc), by simp (disch := omega) only [push_cast, ↓reduceIte, zA, zG, zB, zH, zI, zC, zJ, zK, zL, zD, zE, zF, zM, zN, zO, zP, zQ, reduceCtorEq, not_true_eq_false, not_false_eq_true], ⟨by dsimp only; omega, Chg.later (l3.trans l37) hc8 (by intro j hj; rw [List.mem_singleton.1 hj]; exact hB), T ++ [q], ho8, by dsimp only; simp; omega, by simpa using hF8, fun y hy => ?_⟩, by dsimp only; omega⟩
          rcases List.mem_append.1 hy with hy | hy
          · exact ⟨((hZ y (by simp [hy])).1.later l37).chg hb hc8, (hZ y (by simp [hy])).2⟩
          · rw [List.mem_singleton.1 hy]
            exact ⟨hq7.chg hb hc8, hGz.join hGr h3⟩
      · repeat' (first | (simp (disch := omega) only [push_cast, ↓reduceIte, zA, zG, zB, zH, zI, zC, zJ, zK, zL, zD, zE, zF, zM, zN, zO, zP, zQ, reduceCtorEq, not_true_eq_false, not_false_eq_true]) | (first | refine vIfE_of ?_ ?_ | refine vIfD_of ?_ ?_ | refine vIfQ_of ?_ ?_ | refine vIfV_of ?_ ?_) <;> intro _ | refine And.intro (by omega) ?_ | refine drawn_q ?_ | fail)
        intro w5 l5
        have f5 := cellsAt_later l5 4 f4'
        repeat' (first | (simp (disch := omega) only [push_cast, ↓reduceIte, zA, zG, zB, zH, zI, zC, zJ, zK, zL, zD, zE, zF, zM, zN, zO, zP, zQ, reduceCtorEq, not_true_eq_false, not_false_eq_true, f5]) | (first | refine vIfE_of ?_ ?_ | refine vIfD_of ?_ ?_ | refine vIfQ_of ?_ ?_ | refine vIfV_of ?_ ?_) <;> intro _ | refine And.intro (by omega) ?_ | refine drawn_q ?_ | fail)
        have la := later_alloc w5 (.cells #[.int .i64 r.t, r.dv, .int .i64 r.n, r.av] 35)
        have Bl := Blk.new w5 #[.int .i64 r.t, r.dv, .int .i64 r.n, r.av] 35
        have l45 := (l4.trans l5).trans la
        have hO5 := hO.later l45
        rw [hTn] at hO5
        have hE5 := hEr.later l45
        refine vAppend_e (r := [r]) hO5 (RecS.lit1 (elC_len r) Bl) (by intro q hq; rw [List.mem_singleton.1 hq]; exact hE5.is) (by simp only [List.length_append, List.length_cons, List.length_nil] at *; omega) (Nat.le_trans l3.size l45.size) ?_
        intro v' w6 ho6 hg _
        have l26 := (l3.trans l45).appended hO5 (Nat.le_refl _) hg
        have hF6 : F ((l'.take (i + 1)).map El.abs) (((T ++ [z]) ++ [r]).map El.abs) := by
          rw [htk, List.map_append, List.map_singleton]
          exact F.add (A := (T ++ [z]).map El.abs) (B := []) (by simpa using hF) (hcond hc) (by simp)
        have hZ6 : ∀ q ∈ (T ++ [z]) ++ [r], EO w6 w.heap.size q ∧ Gd D A q.abs := by
          intro q hq
          rcases List.mem_append.1 hq with hq | hq
          · exact ⟨((hZ q hq).1.later l45).grown hO5 hg, (hZ q hq).2⟩
          · rw [List.mem_singleton.1 hq]; exact ⟨hE5.grown hO5 hg, hGr⟩
        repeat' (first | (simp (disch := omega) only [push_cast, ↓reduceIte, zA, zG, zB, zH, zI, zC, zJ, zK, zL, zD, zE, zF, zM, zN, zO, zP, zQ, reduceCtorEq, not_true_eq_false, not_false_eq_true]) | (first | refine vIfE_of ?_ ?_ | refine vIfD_of ?_ ?_ | refine vIfQ_of ?_ ?_ | refine vIfV_of ?_ ?_) <;> intro _ | refine And.intro (by omega) ?_ | refine drawn_q ?_ | fail)
        exact ⟨rfl, (i + 1, v'), by simp (disch := omega) only [push_cast, ↓reduceIte, zA, zG, zB, zH, zI, zC, zJ, zK, zL, zD, zE, zF, zM, zN, zO, zP, zQ, reduceCtorEq, not_true_eq_false, not_false_eq_true], ⟨by dsimp only; omega, l26, (T ++ [z]) ++ [r], ho6, by dsimp only; simp only [List.length_append, List.length_cons, List.length_nil] at *; omega, hF6, hZ6⟩, by dsimp only; omega⟩
  · have e : i = l'.length := by omega
    subst e
    rw [List.take_length] at hF
    have hf : FoldR D A w3 w.heap.size ov 0 (l.map El.abs) := .inr ⟨rfl, os, hO.base l02.size, (Res.stb hst).2 _ hF, hZ⟩
    repeat' (first | (simp (disch := omega) only [push_cast, ↓reduceIte, zA, zG, zB, zH, zI, zC, zJ, zK, zL, zD, zE, zF, zM, zN, zO, zP, zQ, reduceCtorEq, not_true_eq_false, not_false_eq_true]) | (first | refine vIfE_of ?_ ?_ | refine vIfD_of ?_ ?_ | refine vIfQ_of ?_ ?_ | refine vIfV_of ?_ ?_) <;> intro _ | refine And.intro (by omega) ?_ | refine drawn_q ?_ | fail)
    exact ⟨_, _, rfl, hf, l03⟩
end Go.Proofs.Ythihbgpaoldbjaa
end
section
set_option linter.unusedSimpArgs false
namespace Go.Vc
variable {α : Type} {enc : α → List Value} {k : Nat}
theorem rec_take (hk : ∀ x, (enc x).length = k) (l : List α) : ∀ j : Nat, (l.map enc).flatten.take (j * k) = ((l.take j).map enc).flatten := by
  induction l with
  | nil => intro j; simp
  | cons p l ih =>
    intro j
    cases j with
    | zero => simp
    | succ j =>
      simp only [List.map_cons, List.flatten_cons, List.take_succ_cons]
      rw [List.take_append, hk, List.take_of_length_le (by rw [hk, Nat.add_mul]; omega), show (j + 1) * k - k = j * k by rw [Nat.add_mul]; omega, ih]
theorem rec_drop (hk : ∀ x, (enc x).length = k) (l : List α) : ∀ j : Nat, (l.map enc).flatten.drop (j * k) = ((l.drop j).map enc).flatten := by
  induction l with
  | nil => intro j; simp
  | cons p l ih =>
    intro j
    cases j with
    | zero => simp
    | succ j =>
      simp only [List.map_cons, List.flatten_cons, List.drop_succ_cons]
      rw [List.drop_append, hk, List.drop_of_length_le (by rw [hk, Nat.add_mul]; omega), show (j + 1) * k - k = j * k by rw [Nat.add_mul]; omega, ih, List.nil_append]
theorem RecS.pre (hk : ∀ x, (enc x).length = k) {w : World} {o : Option Addr} {n c : Nat} {l : List α} (h : RecS enc k w (.slice o n c) l) {j : Nat} (hj : j ≤ l.length) : RecS enc k w (.slice o j c) (l.take j) := by
  have hn := (SlN.len h).1
  subst hn
  have := SlN.preN h hj
  rw [rec_take hk] at this
  unfold RecS
  rw [List.length_take, Nat.min_eq_left hj]
  exact this
theorem RecS.from (hk : ∀ x, (enc x).length = k) {w : World} {o : Option Addr} {n c : Nat} {l : List α} (h : RecS enc k w (.slice o n c) l) {j : Nat} (hj : j ≤ l.length) : RecS enc k w (.slice (slAddr o j c k) (l.length - j) ((c : Int) - j).toNat) (l.drop j) := by
  obtain ⟨hn, hc, hm, hl, _⟩ := SlN.len h
  subst hn
  have := SlN.part h (l := (j : Int)) (k := (l.length : Int)) (m := (c : Int)) (by omega) (by omega) (by omega) (by omega) (by omega)
  rw [Int.toNat_natCast, Int.toNat_natCast, ← hl, List.take_length, rec_drop hk, show ((l.length : Int) - (j : Int)).toNat = l.length - j by omega] at this
  unfold RecS
  rw [List.length_drop]
  exact this
end Go.Vc
namespace Go.Proofs.Ythihbgpaoldbjaa
open Go.Vc Go.Key Go.Stab Go.Fold
set_option maxRecDepth 100000
/-- What the document's Fold answers. -/
def FoldD (D A : Nat) (w : World) (v : Value) (e : Int) (l : List R) : Prop := (e = 121 ∧ v = .slice none 0 0 ∧ Bad l) ∨ (e = 0 ∧ ∃ es, RecS elC 4 w v es ∧ F l (es.map El.abs) ∧ ∀ z ∈ es, EIs w z ∧ Gd D A z.abs)
set_option maxHeartbeats 2000000 in
theorem dfold_c (D A : Nat) (v : Value) (l : List El) (w : World) (h : RecS elC 4 w v l) (hes : ∀ e ∈ l, EIs w e ∧ Gd D A e.abs) (hl : l.length ≤ 100000) : FnC Try.prog 14 #[v] w fun r w' =>
    ∃ vv e, r = .tuple #[vv, .int .i64 e] ∧ FoldD D A w' vv e (l.map El.abs) ∧ Later w w' := by
  obtain ⟨o, c, rfl, g1, g2⟩ := h.slice
  refine enter14 _ ?_
  unfold B14
  repeat' (first | (simp (disch := omega) only [push_cast, ↓reduceIte, zA, zG, zB, zH, zI, zC, zJ, zK, zL, zD, zE, zF, zM, zN, zO, zP, zQ, reduceCtorEq, not_true_eq_false, not_false_eq_true]) | (first | refine vIfE_of ?_ ?_ | refine vIfD_of ?_ ?_ | refine vIfQ_of ?_ ?_ | refine vIfV_of ?_ ?_) <;> intro _ | refine And.intro (by omega) ?_ | refine drawn_q ?_ | fail)
  refine vc_loop W14_0 (fun p : Nat × Value => [(2, .slice none 0 0), (3, .int .i64 0), (4, p.2), (5, .int .i64 (p.1 : Int))])
    (fun p w' => p.1 ≤ l.length ∧ Later w w' ∧ ∃ os, RecS elC 4 w' p.2 os ∧ os.length ≤ p.1 ∧ F ((l.take p.1).map El.abs) (os.map El.abs) ∧ ∀ z ∈ os, EIs w' z ∧ Gd D A z.abs) (fun p => l.length - p.1) (0, .slice none 0 0) (by decide) ?_ ?_ ?_
  · simp (disch := omega) only [push_cast, ↓reduceIte, zA, zG, zB, zH, zI, zC, zJ, zK, zL, zD, zE, zF, zM, zN, zO, zP, zQ, reduceCtorEq, not_true_eq_false, not_false_eq_true]
  · exact ⟨by omega, Later.refl _, [], RecS.nil _, by simp, F.start, by simp⟩
  rintro ⟨i, ov⟩ uu w1 ⟨hi, l1, os, hO, hosl, hF, hZ⟩
  dsimp only at hi hO hF hosl
  by_cases hlt : i < l.length
  · obtain ⟨aa, rfl, f1⟩ := RecS.at elC_len (h.later l1) hlt
    have hEr := (hes l[i] (List.getElem_mem _)).1.later l1
    have hGr := (hes l[i] (List.getElem_mem _)).2
    have htk : (l.take (i + 1)).map El.abs = (l.take i).map El.abs ++ [l[i].abs] := by rw [take_snoc l i hlt, List.map_append]; rfl
    have hbad : Bad ((l.take (i + 1)).map El.abs) → Bad (l.map El.abs) := by
      intro hb
      have := hb.more ((l.drop (i + 1)).map El.abs)
      rwa [← List.map_append, List.take_append_drop] at this
    have hGd := hGr.rr
    generalize hr : l[i] = r at *
    obtain ⟨oo, oc, hov, hoc, hoc2⟩ := RecS.slice hO
    subst hov
    repeat' (first | (simp (disch := omega) only [push_cast, ↓reduceIte, zA, zG, zB, zH, zI, zC, zJ, zK, zL, zD, zE, zF, zM, zN, zO, zP, zQ, reduceCtorEq, not_true_eq_false, not_false_eq_true]) | (first | refine vIfE_of ?_ ?_ | refine vIfD_of ?_ ?_ | refine vIfQ_of ?_ ?_ | refine vIfV_of ?_ ?_) <;> intro _ | refine And.intro (by omega) ?_ | refine drawn_q ?_ | fail)
    refine vc_loop W14_1 (fun p : Nat × Bool => [(6, .int .i64 (p.1 : Int)), (7, .bool p.2)])
      (fun p w' => p.1 ≤ os.length ∧ Later w1 w' ∧ (∀ j (hj : j < os.length), j < p.1 → elt os[j] r = true) ∧ (p.2 = false → ∃ hp : p.1 < os.length, elt os[p.1] r = false)) (fun p => 2 * (os.length - p.1) + p.2.toNat) (0, true) (by decide) ?_ ?_ ?_
    · simp (disch := omega) only [push_cast, ↓reduceIte, zA, zG, zB, zH, zI, zC, zJ, zK, zL, zD, zE, zF, zM, zN, zO, zP, zQ, reduceCtorEq, not_true_eq_false, not_false_eq_true]
    · exact ⟨by omega, Later.refl _, fun j _ hj => absurd hj (Nat.not_lt_zero _), fun hh => by cases hh⟩
    rintro ⟨k, b⟩ uu2 w2 ⟨hk, l2, hA, hB⟩
    dsimp only at hk hA hB
    have f2 := cellsAt_later l2 4 f1
    have hAA : ∀ a ∈ (os.take k).map El.abs, rlt a r.abs = true := by
      intro a ha
      obtain ⟨e, he, rfl⟩ := List.mem_map.1 ha
      obtain ⟨j, hj, rfl⟩ := List.getElem_of_mem he
      rw [List.length_take] at hj
      rw [List.getElem_take]
      exact hA j (by omega) (by omega)
    by_cases hkl : k < os.length
    · obtain ⟨ab, hab, fk⟩ := RecS.at elC_len (hO.later l2) hkl
      subst hab
      have hzk := (hZ os[k] (List.getElem_mem _)).1.later l2
      have hGz := (hZ os[k] (List.getElem_mem _)).2
      cases b with
      | true =>
        clear hB hAA
        repeat' (first | (simp (disch := omega) only [push_cast, ↓reduceIte, zA, zG, zB, zH, zI, zC, zJ, zK, zL, zD, zE, zF, zM, zN, zO, zP, zQ, reduceCtorEq, not_true_eq_false, not_false_eq_true, fk, f2]) | (first | refine vIfE_of ?_ ?_ | refine vIfD_of ?_ ?_ | refine vIfQ_of ?_ ?_ | refine vIfV_of ?_ ?_) <;> intro _ | refine And.intro (by omega) ?_ | refine drawn_q ?_ | fail)
        refine QFn.of hb36 (v := .bool (elt os[k] r)) (fun w' hl => less_c _ _ w' (hzk.later hl) ((hEr.later l2).later hl) (by have := hGz.rr.2.1; have := hGr.rr.2.1; omega)) ?_
        cases hel : elt os[k] r with
        | true =>
          repeat' (first | (simp (disch := omega) only [push_cast, ↓reduceIte, zA, zG, zB, zH, zI, zC, zJ, zK, zL, zD, zE, zF, zM, zN, zO, zP, zQ, reduceCtorEq, not_true_eq_false, not_false_eq_true]) | (first | refine vIfE_of ?_ ?_ | refine vIfD_of ?_ ?_ | refine vIfQ_of ?_ ?_ | refine vIfV_of ?_ ?_) <;> intro _ | refine And.intro (by omega) ?_ | refine drawn_q ?_ | fail)
          intro w3 l3
          repeat' (first | (simp (disch := omega) only [push_cast, ↓reduceIte, zA, zG, zB, zH, zI, zC, zJ, zK, zL, zD, zE, zF, zM, zN, zO, zP, zQ, reduceCtorEq, not_true_eq_false, not_false_eq_true]) | (first | refine vIfE_of ?_ ?_ | refine vIfD_of ?_ ?_ | refine vIfQ_of ?_ ?_ | refine vIfV_of ?_ ?_) <;> intro _ | refine And.intro (by omega) ?_ | refine drawn_q ?_ | fail)
          refine ⟨rfl, (k + 1, true), by simp (disch := omega) only [push_cast, ↓reduceIte, zA, zG, zB, zH, zI, zC, zJ, zK, zL, zD, zE, zF, zM, zN, zO, zP, zQ, reduceCtorEq, not_true_eq_false, not_false_eq_true], ⟨by dsimp only; omega, l2.trans l3, fun j hj hjk => ?_, fun hh => by cases hh⟩, by dsimp only; omega⟩
          by_cases hjk' : j < k
          · exact hA j hj hjk'
          · have : j = k := by dsimp only at hjk; omega
            subst this
            exact hel
        | false =>
          repeat' (first | (simp (disch := omega) only [push_cast, ↓reduceIte, zA, zG, zB, zH, zI, zC, zJ, zK, zL, zD, zE, zF, zM, zN, zO, zP, zQ, reduceCtorEq, not_true_eq_false, not_false_eq_true]) | (first | refine vIfE_of ?_ ?_ | refine vIfD_of ?_ ?_ | refine vIfQ_of ?_ ?_ | refine vIfV_of ?_ ?_) <;> intro _ | refine And.intro (by omega) ?_ | refine drawn_q ?_ | fail)
          intro w3 l3
          repeat' (first | (simp (disch := omega) only [push_cast, ↓reduceIte, zA, zG, zB, zH, zI, zC, zJ, zK, zL, zD, zE, zF, zM, zN, zO, zP, zQ, reduceCtorEq, not_true_eq_false, not_false_eq_true]) | (first | refine vIfE_of ?_ ?_ | refine vIfD_of ?_ ?_ | refine vIfQ_of ?_ ?_ | refine vIfV_of ?_ ?_) <;> intro _ | refine And.intro (by omega) ?_ | refine drawn_q ?_ | fail)
          exact ⟨rfl, (k, false), by simp (disch := omega) only [push_cast, ↓reduceIte, zA, zG, zB, zH, zI, zC, zJ, zK, zL, zD, zE, zF, zM, zN, zO, zP, zQ, reduceCtorEq, not_true_eq_false, not_false_eq_true], ⟨by dsimp only; omega, l2.trans l3, hA, fun _ => ⟨hkl, hel⟩⟩, by simp⟩
      | false =>
        obtain ⟨_, hel⟩ := hB rfl
        generalize hz : os[k] = z at *
        repeat' (first | (simp (disch := omega) only [push_cast, ↓reduceIte, zA, zG, zB, zH, zI, zC, zJ, zK, zL, zD, zE, zF, zM, zN, zO, zP, zQ, reduceCtorEq, not_true_eq_false, not_false_eq_true, f2]) | (first | refine vIfE_of ?_ ?_ | refine vIfD_of ?_ ?_ | refine vIfQ_of ?_ ?_ | refine vIfV_of ?_ ?_) <;> intro _ | refine And.intro (by omega) ?_ | refine drawn_q ?_ | fail)
        have hr2 := hEr.later l2
        refine vStore_new rfl rfl (by simpa using elC_one hr2) ?_
        have l3 := later_alloc w2 (.cells (elC r).toArray 35)
        have B3 := Blk.new w2 (elC r).toArray 35
        generalize w2.alloc (.cells (elC r).toArray 35) = w3 at *
        generalize hk4 : w2.heap.size = k4 at *
        have f3 : cellsAt w3 ⟨k4, 0, none⟩ 4 = some (elC r) := Blk.cellsAt (l := elC r) B3
        have hr3 := hr2.later l3
        have g3 := cellsAt_later l3 4 f2

        have gk := cellsAt_later l3 4 fk
        have hz3 := hzk.later l3
        repeat' (first | (simp (disch := omega) only [push_cast, ↓reduceIte, zA, zG, zB, zH, zI, zC, zJ, zK, zL, zD, zE, zF, zM, zN, zO, zP, zQ, reduceCtorEq, not_true_eq_false, not_false_eq_true, gk, g3]) | (first | refine vIfE_of ?_ ?_ | refine vIfD_of ?_ ?_ | refine vIfQ_of ?_ ?_ | refine vIfV_of ?_ ?_) <;> intro _ | refine And.intro (by omega) ?_ | refine drawn_q ?_ | fail)
        refine QFn.of hb45 (v := .bool (decide (ecmp z r = 0))) (fun w' hl => onekey_c z r w' (hz3.later hl) (hr3.later hl)) ?_
        by_cases hc : ecmp z r = 0
        · rw [decide_eq_true hc]
          repeat' (first | (simp (disch := omega) only [push_cast, ↓reduceIte, zA, zG, zB, zH, zI, zC, zJ, zK, zL, zD, zE, zF, zM, zN, zO, zP, zQ, reduceCtorEq, not_true_eq_false, not_false_eq_true]) | (first | refine vIfE_of ?_ ?_ | refine vIfD_of ?_ ?_ | refine vIfQ_of ?_ ?_ | refine vIfV_of ?_ ?_) <;> intro _ | refine And.intro (by omega) ?_ | refine drawn_q ?_ | fail)
          intro w5 l5
          have l25 := l3.trans l5
          have f5 := cellsAt_later l5 4 f3
          have gk5 := cellsAt_later l5 4 gk
          have g5 := cellsAt_later l5 4 g3
          have hz5 := hzk.later (l3.trans l5)
          have hr5 := hr3.later l5
          obtain ⟨rz, dz, az⟩ := hGz.rr
          obtain ⟨rr, dr, ar⟩ := hGr.rr
          repeat' (first | (simp (disch := omega) only [push_cast, ↓reduceIte, zA, zG, zB, zH, zI, zC, zJ, zK, zL, zD, zE, zF, zM, zN, zO, zP, zQ, reduceCtorEq, not_true_eq_false, not_false_eq_true]) | (first | refine vIfE_of ?_ ?_ | refine vIfD_of ?_ ?_ | refine vIfQ_of ?_ ?_ | refine vIfV_of ?_ ?_) <;> intro _ | refine And.intro (by omega) ?_ | fail)
          refine drawnS_k 13 ?_
          repeat' (first | (simp (disch := omega) only [push_cast, ↓reduceIte, zA, zG, zB, zH, zI, zC, zJ, zK, zL, zD, zE, zF, zM, zN, zO, zP, zQ, reduceCtorEq, not_true_eq_false, not_false_eq_true, gk5, g5]) | (first | refine vIfE_of ?_ ?_ | refine vIfD_of ?_ ?_ | refine vIfQ_of ?_ ?_ | refine vIfV_of ?_ ?_) <;> intro _ | refine And.intro (by omega) ?_ | fail)
          refine NFn.of hb37 (JV w5.heap.size z r) (stb_jv _ _ _ _) (fun w' hl => (djoin_c z r w' (hz5.later hl) (hr5.later hl) rz rr (by omega)).mono ?_) ?_
          · rintro v w'' ⟨q, e, rfl, hj, hE, hl'⟩
            exact ⟨⟨q, e, rfl, hj, hE.base hl.size⟩, hl'⟩
          repeat' (first | (simp (disch := omega) only [push_cast, ↓reduceIte, zA, zG, zB, zH, zI, zC, zJ, zK, zL, zD, zE, zF, zM, zN, zO, zP, zQ, reduceCtorEq, not_true_eq_false, not_false_eq_true]) | (first | refine vIfE_of ?_ ?_ | refine vIfD_of ?_ ?_ | refine vIfQ_of ?_ ?_ | refine vIfV_of ?_ ?_) <;> intro _ | refine And.intro (by omega) ?_ | fail)
          refine nR_move (t := 69) (by simp) rfl (stb_jv _ _ _ _) ?_
          repeat' (first | (simp (disch := omega) only [push_cast, ↓reduceIte, zA, zG, zB, zH, zI, zC, zJ, zK, zL, zD, zE, zF, zM, zN, zO, zP, zQ, reduceCtorEq, not_true_eq_false, not_false_eq_true]) | (first | refine vIfE_of ?_ ?_ | refine vIfD_of ?_ ?_ | refine vIfQ_of ?_ ?_ | refine vIfV_of ?_ ?_) <;> intro _ | refine And.intro (by omega) ?_ | fail)
          refine nR_ext (t := 60) (V := JV w5.heap.size z r) (V' := JE w5.heap.size z r) (by simp) rfl (stb_je _ _ _ _) (fun v w' hv => ?_) ?_
          · obtain ⟨q, e, rfl, hj, hE⟩ := hv
            exact ⟨_, rfl, elV q, rfl, q, e, rfl, hj, hE⟩
          repeat' (first | (simp (disch := omega) only [push_cast, ↓reduceIte, zA, zG, zB, zH, zI, zC, zJ, zK, zL, zD, zE, zF, zM, zN, zO, zP, zQ, reduceCtorEq, not_true_eq_false, not_false_eq_true]) | (first | refine vIfE_of ?_ ?_ | refine vIfD_of ?_ ?_ | refine vIfQ_of ?_ ?_ | refine vIfV_of ?_ ?_) <;> intro _ | refine And.intro (by omega) ?_ | fail)
          refine nR_extc (t := 60) (V := JV w5.heap.size z r) (u := .int .i64 (eJ z r)) (by simp) rfl (fun v w' hv => ?_) ?_
          · obtain ⟨q, e, rfl, hj, hE⟩ := hv
            exact ⟨_, rfl, by rw [eJ_is hc hj]; rfl⟩
          repeat' (first | (simp (disch := omega) only [push_cast, ↓reduceIte, zA, zG, zB, zH, zI, zC, zJ, zK, zL, zD, zE, zF, zM, zN, zO, zP, zQ, reduceCtorEq, not_true_eq_false, not_false_eq_true]) | (first | refine vIfE_of ?_ ?_ | refine vIfD_of ?_ ?_ | refine vIfQ_of ?_ ?_ | refine vIfV_of ?_ ?_) <;> intro _ | refine And.intro (by omega) ?_ | fail)
          refine nA_of _ (PtV w5 35 #[.int .i64 0, .slice none 0 0, .int .i64 0, .slice none 0 0]) (stb_pt _ _ _ _) (fun w' hl => ?_) ?_
          · repeat' (first | (simp (disch := omega) only [push_cast, ↓reduceIte, zA, zG, zB, zH, zI, zC, zJ, zK, zL, zD, zE, zF, zM, zN, zO, zP, zQ, reduceCtorEq, not_true_eq_false, not_false_eq_true]) | (first | refine vIfE_of ?_ ?_ | refine vIfD_of ?_ ?_ | refine vIfQ_of ?_ ?_ | refine vIfV_of ?_ ?_) <;> intro _ | refine And.intro (by omega) ?_ | fail)
            exact ⟨later_alloc _ _, w'.heap.size, rfl, hl.size, Blk.new _ _ _⟩
          repeat' (first | (simp (disch := omega) only [push_cast, ↓reduceIte, zA, zG, zB, zH, zI, zC, zJ, zK, zL, zD, zE, zF, zM, zN, zO, zP, zQ, reduceCtorEq, not_true_eq_false, not_false_eq_true]) | (first | refine vIfE_of ?_ ?_ | refine vIfD_of ?_ ?_ | refine vIfQ_of ?_ ?_ | refine vIfV_of ?_ ?_) <;> intro _ | refine And.intro (by omega) ?_ | fail)
          refine ⟨rfl, fun w6 l6 => ?_⟩
          rintro _ ⟨b8, rfl, hb8, B8⟩ _ ⟨q, e, rfl, hj, hq⟩ _ ⟨q2, e2, rfl, hj2, _⟩ _ _
          have ee2 : eJ z r = e2 := eJ_is hc hj2
          have ee : eJ z r = e := eJ_is hc hj
          refine ⟨by simp (disch := omega) only [push_cast, ↓reduceIte, zA, zG, zB, zH, zI, zC, zJ, zK, zL, zD, zE, zF, zM, zN, zO, zP, zQ, reduceCtorEq, not_true_eq_false, not_false_eq_true, ee2, implies_true, and_self], ?_⟩
          unfold elV
          repeat' (first | (simp (disch := omega) only [push_cast, ↓reduceIte, zA, zG, zB, zH, zI, zC, zJ, zK, zL, zD, zE, zF, zM, zN, zO, zP, zQ, reduceCtorEq, not_true_eq_false, not_false_eq_true]) | (first | refine vIfE_of ?_ ?_ | refine vIfD_of ?_ ?_ | refine vIfQ_of ?_ ?_ | refine vIfV_of ?_ ?_) <;> intro _ | refine And.intro (by omega) ?_ | fail)
          refine vStore_blk (l := [.int .i64 0, .slice none 0 0, .int .i64 0, .slice none 0 0]) (xs := elC q) B8 rfl rfl (elC_one hq.is) ?_
          intro w7 B7 c7
          have l57 := Chg.later l6 c7 (by intro j hj; rw [List.mem_singleton.1 hj]; exact hb8)
          have hq7 := hq.chg B8 c7
          have l27 := l25.trans l57
          have hsame : Same z.abs r.abs := cmp_zero.1 hc
          have hdk : os = os.take k ++ z :: os.drop (k + 1) := by
            rw [← hz, ← List.drop_eq_getElem_cons hkl, List.take_append_drop]
          have hjoin := F.join (l := (l.take i).map El.abs) (A := (os.take k).map El.abs) (B := (os.drop (k + 1)).map El.abs) (b := z.abs) (r := r.abs) (by
            have := hF
            rw [hdk, List.map_append, List.map_cons] at this
            exact this) hsame
          rw [← htk] at hjoin
          rcases hj with ⟨h1, _⟩ | ⟨_, h2, h3, _⟩ | ⟨_, h2, h3⟩
          · exact absurd hc h1
          · rw [ee, h3]
            repeat' (first | (simp (disch := omega) only [push_cast, ↓reduceIte, zA, zG, zB, zH, zI, zC, zJ, zK, zL, zD, zE, zF, zM, zN, zO, zP, zQ, reduceCtorEq, not_true_eq_false, not_false_eq_true]) | (first | refine vIfE_of ?_ ?_ | refine vIfD_of ?_ ?_ | refine vIfQ_of ?_ ?_ | refine vIfV_of ?_ ?_) <;> intro _ | refine And.intro (by omega) ?_ | refine drawn_q ?_ | fail)
            exact ⟨.slice none 0 0, 121, rfl, .inl ⟨rfl, rfl, hbad (hjoin.1 h2)⟩, (l1.trans l2).trans l27⟩
          · rw [ee, h2]
            have B37 := B3.chg (Chg.of_later (ks := []) (l5.trans l57)) (by simp)
            have f7 : cellsAt w7 ⟨b8, 0, none⟩ 4 = some (elC q) := Blk.cellsAt (l := elC q) B7
            repeat' (first | (simp (disch := omega) only [push_cast, ↓reduceIte, zA, zG, zB, zH, zI, zC, zJ, zK, zL, zD, zE, zF, zM, zN, zO, zP, zQ, reduceCtorEq, not_true_eq_false, not_false_eq_true, f7]) | (first | refine vIfE_of ?_ ?_ | refine vIfD_of ?_ ?_ | refine vIfQ_of ?_ ?_ | refine vIfV_of ?_ ?_) <;> intro _ | refine And.intro (by omega) ?_ | refine drawn_q ?_ | fail)
            refine vStore_blk (l := elC r) (xs := elC q) B37 rfl rfl (elC_one hq7.is) ?_
            intro w8x B8x c8
            have l28 : Later w2 w8x := Chg.later l27 c8 (by intro j hj; rw [List.mem_singleton.1 hj]; omega)
            have hq8 := (hq7.chg B37 c8).is
            have hGq : Gd D A q.abs := hGz.join hGr h3
            have f8 : cellsAt w8x ⟨k4, 0, none⟩ 4 = some (elC q) := Blk.cellsAt (l := elC q) B8x
            have hO5 := hO.later (l2.trans l28)
            have hpre := RecS.pre elC_len hO5 (j := k) hk
            have lA := later_alloc w8x (.cells #[] 35)
            have hsA := World.size_alloc w8x (.cells #[] 35)
            have own0 : OwnE (w8x.alloc (.cells #[] 35)) w8x.heap.size (.slice (some ⟨w8x.heap.size, 0, none⟩) 0 0) [] := OwnR.lit0 w8x _ (Nat.le_refl _)
            repeat' (first | (simp (disch := omega) only [push_cast, ↓reduceIte, zA, zG, zB, zH, zI, zC, zJ, zK, zL, zD, zE, zF, zM, zN, zO, zP, zQ, reduceCtorEq, not_true_eq_false, not_false_eq_true]) | (first | refine vIfE_of ?_ ?_ | refine vIfD_of ?_ ?_ | refine vIfQ_of ?_ ?_ | refine vIfV_of ?_ ?_) <;> intro _ | refine And.intro (by omega) ?_ | refine drawn_q ?_ | fail)
            refine vAppend_fresh Try.underlying25 ti35 rfl (by decide) (hpre.later lA) (by unfold maxLen; simp only [List.length_take]; omega) (by simp only [List.length_take]; omega) ?_
            intro v6 w6 hz hp
            have h6 : OwnE w6 w8x.heap.size v6 (os.take k) ∧ Later w8x w6 := by
              rcases Nat.eq_zero_or_pos k with h0 | h0
              · obtain ⟨rfl, rfl⟩ := hz (by simp only [List.length_take]; omega)
                subst h0
                exact ⟨own0, lA⟩
              · obtain ⟨q1, q2⟩ := hp (by simp only [List.length_take]; omega)
                exact ⟨OwnR.base q1 (by omega), lA.trans q2⟩
            obtain ⟨ho6, l6⟩ := h6
            clear hz hp own0 hpre
            have f86 := cellsAt_later l6 4 f8
            have f86' : cellsAt w6 ⟨k4, 0, none⟩ 4 = some [.int .i64 q.t, q.dv, .int .i64 q.n, q.av] := f86
            have hx6 := hq8.later l6
            obtain ⟨o6, c6, hv6, _⟩ := RecS.slice (OwnR.s ho6)
            repeat' (first | (simp (disch := omega) only [push_cast, ↓reduceIte, zA, zG, zB, zH, zI, zC, zJ, zK, zL, zD, zE, zF, zM, zN, zO, zP, zQ, reduceCtorEq, not_true_eq_false, not_false_eq_true, f86']) | (first | refine vIfE_of ?_ ?_ | refine vIfD_of ?_ ?_ | refine vIfQ_of ?_ ?_ | refine vIfV_of ?_ ?_) <;> intro _ | refine And.intro (by omega) ?_ | refine drawn_q ?_ | fail)
            have l7 := later_alloc w6 (.cells #[.int .i64 q.t, q.dv, .int .i64 q.n, q.av] 35)
            have B7 := Blk.new w6 #[.int .i64 q.t, q.dv, .int .i64 q.n, q.av] 35
            refine vAppend_e (r := [q]) (ho6.later l7) (RecS.lit1 (elC_len q) B7) (by intro y hy; rw [List.mem_singleton.1 hy]; exact hx6.later l7) (by simp only [List.length_take, List.length_cons, List.length_nil]; omega) (Nat.le_trans l6.size l7.size) ?_
            intro v8 w8 ho8 hg8 _
            have l58 := (l6.trans l7).appended (ho6.later l7) (Nat.le_refl _) hg8
            have hO8 := hO5.later l58
            have hfrom := RecS.from elC_len hO8 (j := k + 1) (by omega)
            rw [show os.length - (k + 1) = ((os.length : Int) - ((k : Int) + 1)).toNat by omega] at hfrom
            repeat' (first | (simp (disch := omega) only [push_cast, ↓reduceIte, zA, zG, zB, zH, zI, zC, zJ, zK, zL, zD, zE, zF, zM, zN, zO, zP, zQ, reduceCtorEq, not_true_eq_false, not_false_eq_true]) | (first | refine vIfE_of ?_ ?_ | refine vIfD_of ?_ ?_ | refine vIfQ_of ?_ ?_ | refine vIfV_of ?_ ?_) <;> intro _ | refine And.intro (by omega) ?_ | refine drawn_q ?_ | fail)
            refine vAppend_e (r := os.drop (k + 1)) ho8 hfrom (by intro y hy; exact (hZ y (List.mem_of_mem_drop hy)).1.later ((l2.trans l28).trans l58)) (by simp only [List.length_append, List.length_take, List.length_drop, List.length_cons, List.length_nil]; omega) l58.size ?_
            intro v9 w9 ho9 hg9 _
            have l59 := l58.appended ho8 (Nat.le_refl _) hg9
            have hlast : F ((l.take (i + 1)).map El.abs) ((os.take k ++ [q] ++ os.drop (k + 1)).map El.abs) := by
              have := hjoin.2 q.abs h3
              simpa using this
            have hZ9 : ∀ y ∈ os.take k ++ [q] ++ os.drop (k + 1), EIs w9 y ∧ Gd D A y.abs := by
              intro y hy
              rcases List.mem_append.1 hy with hy | hy
              · rcases List.mem_append.1 hy with hy | hy
                · exact ⟨(hZ y (List.mem_of_mem_take hy)).1.later ((l2.trans l28).trans l59), (hZ y (List.mem_of_mem_take hy)).2⟩
                · rw [List.mem_singleton.1 hy]; exact ⟨hq8.later l59, hGq⟩
              · exact ⟨(hZ y (List.mem_of_mem_drop hy)).1.later ((l2.trans l28).trans l59), (hZ y (List.mem_of_mem_drop hy)).2⟩
            repeat' (first | (simp (disch := omega) only [push_cast, ↓reduceIte, zA, zG, zB, zH, zI, zC, zJ, zK, zL, zD, zE, zF, zM, zN, zO, zP, zQ, reduceCtorEq, not_true_eq_false, not_false_eq_true]) | (first | refine vIfE_of ?_ ?_ | refine vIfD_of ?_ ?_ | refine vIfQ_of ?_ ?_ | refine vIfV_of ?_ ?_) <;> intro _ | refine And.intro (by omega) ?_ | refine drawn_q ?_ | fail)
            exact ⟨rfl, (i + 1, v9), by simp (disch := omega) only [push_cast, ↓reduceIte, zA, zG, zB, zH, zI, zC, zJ, zK, zL, zD, zE, zF, zM, zN, zO, zP, zQ, reduceCtorEq, not_true_eq_false, not_false_eq_true], ⟨by dsimp only; omega, (l1.trans (l2.trans l28)).trans l59, _, OwnR.s ho9, by dsimp only; simp only [List.length_append, List.length_take, List.length_drop, List.length_cons, List.length_nil]; omega, hlast, hZ9⟩, by dsimp only; omega⟩

        · rw [decide_eq_false hc]
          repeat' (first | (simp (disch := omega) only [push_cast, ↓reduceIte, zA, zG, zB, zH, zI, zC, zJ, zK, zL, zD, zE, zF, zM, zN, zO, zP, zQ, reduceCtorEq, not_true_eq_false, not_false_eq_true]) | (first | refine vIfE_of ?_ ?_ | refine vIfD_of ?_ ?_ | refine vIfQ_of ?_ ?_ | refine vIfV_of ?_ ?_) <;> intro _ | refine And.intro (by omega) ?_ | refine drawn_q ?_ | fail)
          intro w5 l5
          have l25 := l3.trans l5
          have f5 := cellsAt_later l5 4 f3
          have hr5 := hr3.later l5
          have hBB : ∀ b ∈ (os.drop k).map El.abs, rlt r.abs b = true := by
            have hzr : rlt r.abs z.abs = true := by
              have hkk := ckey_is z.t z.d r.t r.d
              have h1 : ¬ ckey z.t z.d r.t r.d < 0 := of_decide_eq_false hel
              rcases hkk with ⟨k1, k2, _⟩ | ⟨k1, _⟩ | ⟨k1, k2, _⟩
              · omega
              · exact absurd k1 hc
              · show decide (ckey r.t r.d z.t z.d < 0) = true
                rw [k2]; rfl
            intro b hb
            have hdk : os.drop k = z :: os.drop (k + 1) := (List.drop_eq_getElem_cons hkl).trans (by rw [hz])
            have hs := hF.srt
            rw [← List.take_append_drop k os, List.map_append, List.pairwise_append, hdk, List.map_cons, List.pairwise_cons] at hs
            rw [hdk, List.map_cons] at hb
            rcases List.mem_cons.1 hb with rfl | hb
            · exact hzr
            · exact rlt_swo.lt_le hzr (rlt_swo.asym _ _ (hs.2.1.1 b hb))
          have hO5 := hO.later (l2.trans l25)
          have hpre := RecS.pre elC_len hO5 (j := k) hk
          have lA := later_alloc w5 (.cells #[] 35)
          have hsA := World.size_alloc w5 (.cells #[] 35)
          have own0 : OwnE (w5.alloc (.cells #[] 35)) w5.heap.size (.slice (some ⟨w5.heap.size, 0, none⟩) 0 0) [] := OwnR.lit0 w5 _ (Nat.le_refl _)
          repeat' (first | (simp (disch := omega) only [push_cast, ↓reduceIte, zA, zG, zB, zH, zI, zC, zJ, zK, zL, zD, zE, zF, zM, zN, zO, zP, zQ, reduceCtorEq, not_true_eq_false, not_false_eq_true]) | (first | refine vIfE_of ?_ ?_ | refine vIfD_of ?_ ?_ | refine vIfQ_of ?_ ?_ | refine vIfV_of ?_ ?_) <;> intro _ | refine And.intro (by omega) ?_ | refine drawn_q ?_ | fail)
          refine vAppend_fresh Try.underlying25 ti35 rfl (by decide) (hpre.later lA) (by unfold maxLen; simp only [List.length_take]; omega) (by simp only [List.length_take]; omega) ?_
          intro v6 w6 hz hp
          have h6 : OwnE w6 w5.heap.size v6 (os.take k) ∧ Later w5 w6 := by
            rcases Nat.eq_zero_or_pos k with h0 | h0
            · obtain ⟨rfl, rfl⟩ := hz (by simp only [List.length_take]; omega)
              subst h0
              exact ⟨own0, lA⟩
            · obtain ⟨q1, q2⟩ := hp (by simp only [List.length_take]; omega)
              exact ⟨OwnR.base q1 (by omega), lA.trans q2⟩
          obtain ⟨ho6, l6⟩ := h6
          clear hz hp own0 hpre
          have f86 := cellsAt_later l6 4 f5
          have f86' : cellsAt w6 ⟨k4, 0, none⟩ 4 = some [.int .i64 r.t, r.dv, .int .i64 r.n, r.av] := f86
          have hx6 := hr5.later l6
          obtain ⟨o6, c6, hv6, _⟩ := RecS.slice (OwnR.s ho6)
          repeat' (first | (simp (disch := omega) only [push_cast, ↓reduceIte, zA, zG, zB, zH, zI, zC, zJ, zK, zL, zD, zE, zF, zM, zN, zO, zP, zQ, reduceCtorEq, not_true_eq_false, not_false_eq_true, f86']) | (first | refine vIfE_of ?_ ?_ | refine vIfD_of ?_ ?_ | refine vIfQ_of ?_ ?_ | refine vIfV_of ?_ ?_) <;> intro _ | refine And.intro (by omega) ?_ | refine drawn_q ?_ | fail)
          have l7 := later_alloc w6 (.cells #[.int .i64 r.t, r.dv, .int .i64 r.n, r.av] 35)
          have B7 := Blk.new w6 #[.int .i64 r.t, r.dv, .int .i64 r.n, r.av] 35
          refine vAppend_e (r := [r]) (ho6.later l7) (RecS.lit1 (elC_len r) B7) (by intro q hq; rw [List.mem_singleton.1 hq]; exact hx6.later l7) (by simp only [List.length_take, List.length_cons, List.length_nil]; omega) (Nat.le_trans l6.size l7.size) ?_
          intro v8 w8 ho8 hg8 _
          have l58 := (l6.trans l7).appended (ho6.later l7) (Nat.le_refl _) hg8
          have hO8 := hO5.later l58
          have hfrom := RecS.from elC_len hO8 (j := k) (by omega)
          rw [show os.length - (k) = ((os.length : Int) - ((k : Nat) : Int)).toNat by omega] at hfrom
          repeat' (first | (simp (disch := omega) only [push_cast, ↓reduceIte, zA, zG, zB, zH, zI, zC, zJ, zK, zL, zD, zE, zF, zM, zN, zO, zP, zQ, reduceCtorEq, not_true_eq_false, not_false_eq_true]) | (first | refine vIfE_of ?_ ?_ | refine vIfD_of ?_ ?_ | refine vIfQ_of ?_ ?_ | refine vIfV_of ?_ ?_) <;> intro _ | refine And.intro (by omega) ?_ | refine drawn_q ?_ | fail)
          refine vAppend_e (r := os.drop (k)) ho8 hfrom (by intro q hq; exact (hZ q (List.mem_of_mem_drop hq)).1.later ((l2.trans l25).trans l58)) (by simp only [List.length_append, List.length_take, List.length_drop, List.length_cons, List.length_nil]; omega) l58.size ?_
          intro v9 w9 ho9 hg9 _
          have l59 := l58.appended ho8 (Nat.le_refl _) hg9
          have hlast : F ((l.take (i + 1)).map El.abs) ((os.take k ++ [r] ++ os.drop (k)).map El.abs) := by
            rw [htk, List.map_append, List.map_append, List.map_singleton]
            have := F.add (A := (os.take k).map El.abs) (B := (os.drop k).map El.abs) (r := r.abs) (by rw [← List.map_append, List.take_append_drop]; exact hF) hAA hBB
            simpa using this
          have hZ9 : ∀ q ∈ os.take k ++ [r] ++ os.drop (k), EIs w9 q ∧ Gd D A q.abs := by
            intro q hq
            rcases List.mem_append.1 hq with hq | hq
            · rcases List.mem_append.1 hq with hq | hq
              · exact ⟨(hZ q (List.mem_of_mem_take hq)).1.later ((l2.trans l25).trans l59), (hZ q (List.mem_of_mem_take hq)).2⟩
              · rw [List.mem_singleton.1 hq]; exact ⟨hr5.later l59, hGr⟩
            · exact ⟨(hZ q (List.mem_of_mem_drop hq)).1.later ((l2.trans l25).trans l59), (hZ q (List.mem_of_mem_drop hq)).2⟩
          repeat' (first | (simp (disch := omega) only [push_cast, ↓reduceIte, zA, zG, zB, zH, zI, zC, zJ, zK, zL, zD, zE, zF, zM, zN, zO, zP, zQ, reduceCtorEq, not_true_eq_false, not_false_eq_true]) | (first | refine vIfE_of ?_ ?_ | refine vIfD_of ?_ ?_ | refine vIfQ_of ?_ ?_ | refine vIfV_of ?_ ?_) <;> intro _ | refine And.intro (by omega) ?_ | refine drawn_q ?_ | fail)
          exact ⟨rfl, (i + 1, v9), by simp (disch := omega) only [push_cast, ↓reduceIte, zA, zG, zB, zH, zI, zC, zJ, zK, zL, zD, zE, zF, zM, zN, zO, zP, zQ, reduceCtorEq, not_true_eq_false, not_false_eq_true], ⟨by dsimp only; omega, (l1.trans (l2.trans l25)).trans l59, _, OwnR.s ho9, by dsimp only; simp only [List.length_append, List.length_take, List.length_drop, List.length_cons, List.length_nil]; omega, hlast, hZ9⟩, by dsimp only; omega⟩

    · have hko : k = os.length := by omega
      have hx : b = true := by
        cases b with
        | true => rfl
        | false => obtain ⟨hp, _⟩ := hB rfl; omega
      subst hx
      clear hB
      repeat' (first | (simp (disch := omega) only [push_cast, ↓reduceIte, zA, zG, zB, zH, zI, zC, zJ, zK, zL, zD, zE, zF, zM, zN, zO, zP, zQ, reduceCtorEq, not_true_eq_false, not_false_eq_true, f2]) | (first | refine vIfE_of ?_ ?_ | refine vIfD_of ?_ ?_ | refine vIfQ_of ?_ ?_ | refine vIfV_of ?_ ?_) <;> intro _ | refine And.intro (by omega) ?_ | refine drawn_q ?_ | fail)
      have hr2 := hEr.later l2
      refine vStore_new rfl rfl (by simpa using elC_one hr2) ?_
      have l3 := later_alloc w2 (.cells (elC r).toArray 35)
      have B3 := Blk.new w2 (elC r).toArray 35
      generalize w2.alloc (.cells (elC r).toArray 35) = w3 at *
      generalize hk4 : w2.heap.size = k4 at *
      have f3 : cellsAt w3 ⟨k4, 0, none⟩ 4 = some (elC r) := Blk.cellsAt (l := elC r) B3
      have hr3 := hr2.later l3
      have g3 := cellsAt_later l3 4 f2

      repeat' (first | (simp (disch := omega) only [push_cast, ↓reduceIte, zA, zG, zB, zH, zI, zC, zJ, zK, zL, zD, zE, zF, zM, zN, zO, zP, zQ, reduceCtorEq, not_true_eq_false, not_false_eq_true]) | (first | refine vIfE_of ?_ ?_ | refine vIfD_of ?_ ?_ | refine vIfQ_of ?_ ?_ | refine vIfV_of ?_ ?_) <;> intro _ | refine And.intro (by omega) ?_ | refine drawn_q ?_ | fail)
      intro w5 l5
      have l25 := l3.trans l5
      have f5 := cellsAt_later l5 4 f3
      have hr5 := hr3.later l5
      have hBB : ∀ b ∈ (os.drop k).map El.abs, rlt r.abs b = true := by
        intro b hb
        rw [List.drop_of_length_le (by omega)] at hb
        simp at hb

      have hO5 := hO.later (l2.trans l25)
      have hpre := RecS.pre elC_len hO5 (j := k) hk
      have lA := later_alloc w5 (.cells #[] 35)
      have hsA := World.size_alloc w5 (.cells #[] 35)
      have own0 : OwnE (w5.alloc (.cells #[] 35)) w5.heap.size (.slice (some ⟨w5.heap.size, 0, none⟩) 0 0) [] := OwnR.lit0 w5 _ (Nat.le_refl _)
      repeat' (first | (simp (disch := omega) only [push_cast, ↓reduceIte, zA, zG, zB, zH, zI, zC, zJ, zK, zL, zD, zE, zF, zM, zN, zO, zP, zQ, reduceCtorEq, not_true_eq_false, not_false_eq_true]) | (first | refine vIfE_of ?_ ?_ | refine vIfD_of ?_ ?_ | refine vIfQ_of ?_ ?_ | refine vIfV_of ?_ ?_) <;> intro _ | refine And.intro (by omega) ?_ | refine drawn_q ?_ | fail)
      refine vAppend_fresh Try.underlying25 ti35 rfl (by decide) (hpre.later lA) (by unfold maxLen; simp only [List.length_take]; omega) (by simp only [List.length_take]; omega) ?_
      intro v6 w6 hz hp
      have h6 : OwnE w6 w5.heap.size v6 (os.take k) ∧ Later w5 w6 := by
        rcases Nat.eq_zero_or_pos k with h0 | h0
        · obtain ⟨rfl, rfl⟩ := hz (by simp only [List.length_take]; omega)
          subst h0
          exact ⟨own0, lA⟩
        · obtain ⟨q1, q2⟩ := hp (by simp only [List.length_take]; omega)
          exact ⟨OwnR.base q1 (by omega), lA.trans q2⟩
      obtain ⟨ho6, l6⟩ := h6
      clear hz hp own0 hpre
      have f86 := cellsAt_later l6 4 f5
      have f86' : cellsAt w6 ⟨k4, 0, none⟩ 4 = some [.int .i64 r.t, r.dv, .int .i64 r.n, r.av] := f86
      have hx6 := hr5.later l6
      obtain ⟨o6, c6, hv6, _⟩ := RecS.slice (OwnR.s ho6)
      repeat' (first | (simp (disch := omega) only [push_cast, ↓reduceIte, zA, zG, zB, zH, zI, zC, zJ, zK, zL, zD, zE, zF, zM, zN, zO, zP, zQ, reduceCtorEq, not_true_eq_false, not_false_eq_true, f86']) | (first | refine vIfE_of ?_ ?_ | refine vIfD_of ?_ ?_ | refine vIfQ_of ?_ ?_ | refine vIfV_of ?_ ?_) <;> intro _ | refine And.intro (by omega) ?_ | refine drawn_q ?_ | fail)
      have l7 := later_alloc w6 (.cells #[.int .i64 r.t, r.dv, .int .i64 r.n, r.av] 35)
      have B7 := Blk.new w6 #[.int .i64 r.t, r.dv, .int .i64 r.n, r.av] 35
      refine vAppend_e (r := [r]) (ho6.later l7) (RecS.lit1 (elC_len r) B7) (by intro q hq; rw [List.mem_singleton.1 hq]; exact hx6.later l7) (by simp only [List.length_take, List.length_cons, List.length_nil]; omega) (Nat.le_trans l6.size l7.size) ?_
      intro v8 w8 ho8 hg8 _
      have l58 := (l6.trans l7).appended (ho6.later l7) (Nat.le_refl _) hg8
      have hO8 := hO5.later l58
      have hfrom := RecS.from elC_len hO8 (j := k) (by omega)
      rw [show os.length - (k) = ((os.length : Int) - ((k : Nat) : Int)).toNat by omega] at hfrom
      repeat' (first | (simp (disch := omega) only [push_cast, ↓reduceIte, zA, zG, zB, zH, zI, zC, zJ, zK, zL, zD, zE, zF, zM, zN, zO, zP, zQ, reduceCtorEq, not_true_eq_false, not_false_eq_true]) | (first | refine vIfE_of ?_ ?_ | refine vIfD_of ?_ ?_ | refine vIfQ_of ?_ ?_ | refine vIfV_of ?_ ?_) <;> intro _ | refine And.intro (by omega) ?_ | refine drawn_q ?_ | fail)
      refine vAppend_e (r := os.drop (k)) ho8 hfrom (by intro q hq; exact (hZ q (List.mem_of_mem_drop hq)).1.later ((l2.trans l25).trans l58)) (by simp only [List.length_append, List.length_take, List.length_drop, List.length_cons, List.length_nil]; omega) l58.size ?_
      intro v9 w9 ho9 hg9 _
      have l59 := l58.appended ho8 (Nat.le_refl _) hg9
      have hlast : F ((l.take (i + 1)).map El.abs) ((os.take k ++ [r] ++ os.drop (k)).map El.abs) := by
        rw [htk, List.map_append, List.map_append, List.map_singleton]
        have := F.add (A := (os.take k).map El.abs) (B := (os.drop k).map El.abs) (r := r.abs) (by rw [← List.map_append, List.take_append_drop]; exact hF) hAA hBB
        simpa using this
      have hZ9 : ∀ q ∈ os.take k ++ [r] ++ os.drop (k), EIs w9 q ∧ Gd D A q.abs := by
        intro q hq
        rcases List.mem_append.1 hq with hq | hq
        · rcases List.mem_append.1 hq with hq | hq
          · exact ⟨(hZ q (List.mem_of_mem_take hq)).1.later ((l2.trans l25).trans l59), (hZ q (List.mem_of_mem_take hq)).2⟩
          · rw [List.mem_singleton.1 hq]; exact ⟨hr5.later l59, hGr⟩
        · exact ⟨(hZ q (List.mem_of_mem_drop hq)).1.later ((l2.trans l25).trans l59), (hZ q (List.mem_of_mem_drop hq)).2⟩
      repeat' (first | (simp (disch := omega) only [push_cast, ↓reduceIte, zA, zG, zB, zH, zI, zC, zJ, zK, zL, zD, zE, zF, zM, zN, zO, zP, zQ, reduceCtorEq, not_true_eq_false, not_false_eq_true]) | (first | refine vIfE_of ?_ ?_ | refine vIfD_of ?_ ?_ | refine vIfQ_of ?_ ?_ | refine vIfV_of ?_ ?_) <;> intro _ | refine And.intro (by omega) ?_ | refine drawn_q ?_ | fail)
      exact ⟨rfl, (i + 1, v9), by simp (disch := omega) only [push_cast, ↓reduceIte, zA, zG, zB, zH, zI, zC, zJ, zK, zL, zD, zE, zF, zM, zN, zO, zP, zQ, reduceCtorEq, not_true_eq_false, not_false_eq_true], ⟨by dsimp only; omega, (l1.trans (l2.trans l25)).trans l59, _, OwnR.s ho9, by dsimp only; simp only [List.length_append, List.length_take, List.length_drop, List.length_cons, List.length_nil]; omega, hlast, hZ9⟩, by dsimp only; omega⟩
  · have e : i = l.length := by omega
    subst e
    rw [List.take_length] at hF
    have hf : FoldD D A w1 ov 0 (l.map El.abs) := .inr ⟨rfl, os, hO, hF, hZ⟩
    repeat' (first | (simp (disch := omega) only [push_cast, ↓reduceIte, zA, zG, zB, zH, zI, zC, zJ, zK, zL, zD, zE, zF, zM, zN, zO, zP, zQ, reduceCtorEq, not_true_eq_false, not_false_eq_true]) | (first | refine vIfE_of ?_ ?_ | refine vIfD_of ?_ ?_ | refine vIfQ_of ?_ ?_ | refine vIfV_of ?_ ?_) <;> intro _ | refine And.intro (by omega) ?_ | refine drawn_q ?_ | fail)
    exact ⟨_, _, rfl, hf, l1⟩
end Go.Proofs.Ythihbgpaoldbjaa
end
section
set_option linter.unusedSimpArgs false
namespace Go.Proofs.Ythihbgpaoldbjaa
open Go.Vc Go.Key Go.Stab
set_option maxRecDepth 100000
theorem one_c (x y : El) (w : World) (hx : EIs w x) (hy : EIs w y) : FnC Try.prog 29 #[elV x, elV y] w fun r w' => r = .bool (decide (ecmp x y = 0 ∧ x.a = y.a ∧ x.n = y.n)) ∧ Later w w' := by
  unfold elV
  refine enter29 _ _ ?_
  unfold B29
  have eca : (Value.agg #[.int .i64 x.t, x.dv, .int .i64 x.n, x.av]).cells = #[.int .i64 x.t, x.dv, .int .i64 x.n, x.av] := rfl
  have ecb : (Value.agg #[.int .i64 y.t, y.dv, .int .i64 y.n, y.av]).cells = #[.int .i64 y.t, y.dv, .int .i64 y.n, y.av] := rfl
  have s1 : (w.alloc (.cells #[.int .i64 x.t, x.dv, .int .i64 x.n, x.av] 35)).heap.size = w.heap.size + 1 := World.size_alloc w _
  repeat' (first | (simp (disch := omega) only [push_cast, ↓reduceIte, zA, zG, zB, zH, zI, zC, zJ, zK, zL, zD, zE, zF, zM, zN, zO, zP, zQ, reduceCtorEq, not_true_eq_false, not_false_eq_true, eca, ecb, s1, addr_add_eq, Nat.zero_add]) | (first | refine vIfE_of ?_ ?_ | refine vIfD_of ?_ ?_ | refine vIfQ_of ?_ ?_ | refine vIfV_of ?_ ?_) <;> intro _ | refine And.intro (by omega) ?_ | fail)
  obtain ⟨l2, F, hs⟩ := boxes w x y hx hy
  generalize ((w.alloc (.cells #[.int .i64 x.t, x.dv, .int .i64 x.n, x.av] 35)).alloc (.cells #[.int .i64 y.t, y.dv, .int .i64 y.n, y.av] 35)) = w2 at *
  obtain ⟨hx2, hy2, _, _, _, _, _, _, a4, _, _, _, _, b4⟩ := F w2 (Later.refl _)
  repeat' (first | (simp (disch := omega) only [push_cast, ↓reduceIte, zA, zG, zB, zH, zI, zC, zJ, zK, zL, zD, zE, zF, zM, zN, zO, zP, zQ, reduceCtorEq, not_true_eq_false, not_false_eq_true, a4, b4, addr_add_eq, Nat.zero_add]) | (first | refine vIfE_of ?_ ?_ | refine vIfD_of ?_ ?_ | refine vIfQ_of ?_ ?_ | refine vIfV_of ?_ ?_) <;> intro _ | refine And.intro (by omega) ?_ | refine drawn_q ?_ | fail)
  refine (onekey_c x y w2 hx2 hy2).mono ?_
  rintro _ w3 ⟨rfl, l3⟩
  obtain ⟨hx3, hy3, _, _, _, _, _, a3, _, _, _, _, b3, _⟩ := F w3 l3
  repeat' (first | (simp (disch := omega) only [push_cast, ↓reduceIte, zA, zG, zB, zH, zI, zC, zJ, zK, zL, zD, zE, zF, zM, zN, zO, zP, zQ, reduceCtorEq, not_true_eq_false, not_false_eq_true, a3, b3, addr_add_eq, Nat.zero_add]) | (first | refine vIfE_of ?_ ?_ | refine vIfD_of ?_ ?_ | refine vIfQ_of ?_ ?_ | refine vIfV_of ?_ ?_) <;> intro _ | refine And.intro (by omega) ?_ | refine drawn_q ?_ | fail)
  refine (casame_c _ _ _ _ w3 hx3.2 hy3.2).mono ?_
  rintro _ w4 ⟨rfl, l4⟩
  obtain ⟨_, _, _, _, _, _, a2, _, _, _, _, b2, _, _⟩ := F w4 (l3.trans l4)
  have l04 := (l2.trans l3).trans l4
  by_cases h1 : ecmp x y = 0
  · rw [decide_eq_true h1]
    by_cases h2 : x.a = y.a
    · rw [decide_eq_true h2]
      by_cases h3 : x.n = y.n
      · have e : decide (ecmp x y = 0 ∧ x.a = y.a ∧ x.n = y.n) = true := decide_eq_true ⟨h1, h2, h3⟩
        rw [e]
        repeat' (first | (simp (disch := omega) only [push_cast, ↓reduceIte, zA, zG, zB, zH, zI, zC, zJ, zK, zL, zD, zE, zF, zM, zN, zO, zP, zQ, reduceCtorEq, not_true_eq_false, not_false_eq_true, a2, b2, h3, decide_true, addr_add_eq, Nat.zero_add]) | (first | refine vIfE_of ?_ ?_ | refine vIfD_of ?_ ?_ | refine vIfQ_of ?_ ?_ | refine vIfV_of ?_ ?_) <;> intro _ | refine And.intro (by omega) ?_ | refine drawn_q ?_ | fail)
        first | exact ⟨rfl, l04⟩ | exact l04
      · have e : decide (ecmp x y = 0 ∧ x.a = y.a ∧ x.n = y.n) = false := decide_eq_false fun h => h3 h.2.2
        rw [e]
        repeat' (first | (simp (disch := omega) only [push_cast, ↓reduceIte, zA, zG, zB, zH, zI, zC, zJ, zK, zL, zD, zE, zF, zM, zN, zO, zP, zQ, reduceCtorEq, not_true_eq_false, not_false_eq_true, a2, b2, addr_add_eq, Nat.zero_add]) | (first | refine vIfE_of ?_ ?_ | refine vIfD_of ?_ ?_ | refine vIfQ_of ?_ ?_ | refine vIfV_of ?_ ?_) <;> intro _ | refine And.intro (by omega) ?_ | refine drawn_q ?_ | fail)
        first | exact ⟨(by simp [h3]), l04⟩ | exact l04
    · have e : decide (ecmp x y = 0 ∧ x.a = y.a ∧ x.n = y.n) = false := decide_eq_false fun h => h2 h.2.1
      rw [decide_eq_false h2, e]
      repeat' (first | (simp (disch := omega) only [push_cast, ↓reduceIte, zA, zG, zB, zH, zI, zC, zJ, zK, zL, zD, zE, zF, zM, zN, zO, zP, zQ, reduceCtorEq, not_true_eq_false, not_false_eq_true, a2, b2, addr_add_eq, Nat.zero_add]) | (first | refine vIfE_of ?_ ?_ | refine vIfD_of ?_ ?_ | refine vIfQ_of ?_ ?_ | refine vIfV_of ?_ ?_) <;> intro _ | refine And.intro (by omega) ?_ | refine drawn_q ?_ | fail)
      first | exact ⟨rfl, l04⟩ | exact l04
  · have e : decide (ecmp x y = 0 ∧ x.a = y.a ∧ x.n = y.n) = false := decide_eq_false fun h => h1 h.1
    rw [decide_eq_false h1, e]
    repeat' (first | (simp (disch := omega) only [push_cast, ↓reduceIte, zA, zG, zB, zH, zI, zC, zJ, zK, zL, zD, zE, zF, zM, zN, zO, zP, zQ, reduceCtorEq, not_true_eq_false, not_false_eq_true, a2, b2, addr_add_eq, Nat.zero_add]) | (first | refine vIfE_of ?_ ?_ | refine vIfD_of ?_ ?_ | refine vIfQ_of ?_ ?_ | refine vIfV_of ?_ ?_) <;> intro _ | refine And.intro (by omega) ?_ | refine drawn_q ?_ | fail)
    first | exact ⟨rfl, l04⟩ | exact l04
end Go.Proofs.Ythihbgpaoldbjaa
end
section
set_option linter.unusedSimpArgs false
namespace Go.Proofs.Ythihbgpaoldbjaa
open Go.Vc Go.Key Go.Stab
set_option maxRecDepth 100000
theorem abs_iff (x y : El) : (ecmp x y = 0 ∧ x.a = y.a ∧ x.n = y.n) ↔ x.abs = y.abs := by
  have h := ckey_is x.t x.d y.t y.d
  unfold El.abs
  simp only [Prod.mk.injEq]
  constructor
  · rintro ⟨h1, h2, h3⟩
    have h1 : ckey x.t x.d y.t y.d = 0 := h1
    rcases h with h | h | h
    · omega
    · exact ⟨h.2.2.1, h.2.2.2, h3, h2⟩
    · omega
  · rintro ⟨h1, h2, h3, h4⟩
    rcases h with h | h | h
    · exact absurd ⟨h1, h2⟩ h.2.2
    · exact ⟨h.1, h4, h3⟩
    · exact absurd ⟨h1, h2⟩ h.2.2
theorem one_c' (x y : El) (w : World) (hx : EIs w x) (hy : EIs w y) : FnC Try.prog 29 #[elV x, elV y] w fun r w' => r = .bool (decide (x.abs = y.abs)) ∧ Later w w' := by
  refine (one_c x y w hx hy).mono ?_
  rintro _ w' ⟨rfl, h⟩
  exact ⟨by rw [decide_eq_decide.2 (abs_iff x y)], h⟩
theorem dsame_c (u v : Value) (a b : List El) (w : World) (hu : RecS elC 4 w u a) (hv : RecS elC 4 w v b) (ha : ∀ e ∈ a, EIs w e) (hb : ∀ e ∈ b, EIs w e) : FnC Try.prog 15 #[u, v] w fun r w' => (∃ t, r = .bool t ∧ (t = true ↔ a.map El.abs = b.map El.abs)) ∧ Later w w' := by
  obtain ⟨oa, ca, rfl, g1, g2⟩ := hu.slice
  obtain ⟨ob, cb, rfl, k1, k2⟩ := hv.slice
  refine enter15 _ _ ?_
  unfold B15
  by_cases hlen : a.length = b.length
  · repeat' (first | (simp (disch := omega) only [push_cast, ↓reduceIte, zA, zG, zB, zH, zI, zC, zJ, zK, zL, zD, zE, zF, zM, zN, zO, zP, zQ, reduceCtorEq, not_true_eq_false, not_false_eq_true]) | (first | refine vIfE_of ?_ ?_ | refine vIfD_of ?_ ?_ | refine vIfQ_of ?_ ?_ | refine vIfV_of ?_ ?_) <;> intro _ | refine And.intro (by omega) ?_ | refine drawn_q ?_ | fail)
    refine vc_loop W15_0 (fun i : Nat => [(4, .bool false), (5, .int .i64 (i : Int))])
      (fun i w' => i ≤ a.length ∧ Later w w' ∧ (a.take i).map El.abs = (b.take i).map El.abs) (fun i => a.length - i) 0 (by decide) ?_ ?_ ?_
    · simp (disch := omega) only [push_cast, ↓reduceIte, zA, zG, zB, zH, zI, zC, zJ, zK, zL, zD, zE, zF, zM, zN, zO, zP, zQ, reduceCtorEq, not_true_eq_false, not_false_eq_true]
    · exact ⟨by omega, Later.refl _, by simp⟩
    rintro i uu w0 ⟨hi, hl, he⟩
    by_cases hia : i < a.length
    · have hib : i < b.length := by omega
      obtain ⟨aa, rfl, c1⟩ := RecS.at elC_len (hu.later hl) hia
      obtain ⟨bb, rfl, c2⟩ := RecS.at elC_len (hv.later hl) hib
      have h1 := (ha _ (List.getElem_mem hia)).later hl
      have h2 := (hb _ (List.getElem_mem hib)).later hl
      repeat' (first | (simp (disch := omega) only [push_cast, ↓reduceIte, zA, zG, zB, zH, zI, zC, zJ, zK, zL, zD, zE, zF, zM, zN, zO, zP, zQ, reduceCtorEq, not_true_eq_false, not_false_eq_true, c1, c2]) | (first | refine vIfE_of ?_ ?_ | refine vIfD_of ?_ ?_ | refine vIfQ_of ?_ ?_ | refine vIfV_of ?_ ?_) <;> intro _ | refine And.intro (by omega) ?_ | refine drawn_q ?_ | fail)
      refine QFn.of hb29 (v := .bool (decide (a[i].abs = b[i].abs))) (fun w' hl => one_c' _ _ w' (h1.later hl) (h2.later hl)) ?_
      by_cases hab : a[i].abs = b[i].abs
      · rw [decide_eq_true hab]
        repeat' (first | (simp (disch := omega) only [push_cast, ↓reduceIte, zA, zG, zB, zH, zI, zC, zJ, zK, zL, zD, zE, zF, zM, zN, zO, zP, zQ, reduceCtorEq, not_true_eq_false, not_false_eq_true]) | (first | refine vIfE_of ?_ ?_ | refine vIfD_of ?_ ?_ | refine vIfQ_of ?_ ?_ | refine vIfV_of ?_ ?_) <;> intro _ | refine And.intro (by omega) ?_ | refine drawn_q ?_ | fail)
        intro w1 hl1
        repeat' (first | (simp (disch := omega) only [push_cast, ↓reduceIte, zA, zG, zB, zH, zI, zC, zJ, zK, zL, zD, zE, zF, zM, zN, zO, zP, zQ, reduceCtorEq, not_true_eq_false, not_false_eq_true]) | (first | refine vIfE_of ?_ ?_ | refine vIfD_of ?_ ?_ | refine vIfQ_of ?_ ?_ | refine vIfV_of ?_ ?_) <;> intro _ | refine And.intro (by omega) ?_ | refine drawn_q ?_ | fail)
        refine ⟨rfl, i + 1, by simp (disch := omega) only [push_cast, ↓reduceIte, zA, zG, zB, zH, zI, zC, zJ, zK, zL, zD, zE, zF, zM, zN, zO, zP, zQ, reduceCtorEq, not_true_eq_false, not_false_eq_true], ⟨by omega, hl.trans hl1, ?_⟩, by simp; omega⟩
        rw [take_snoc a i hia, take_snoc b i hib, List.map_append, List.map_append, he, List.map_singleton, List.map_singleton, hab]
      · have hne : a.map El.abs ≠ b.map El.abs := fun e => by
          have := congrArg (fun l => l[i]?) e
          simp [hia, hib] at this
          exact hab this
        rw [decide_eq_false hab]
        repeat' (first | (simp (disch := omega) only [push_cast, ↓reduceIte, zA, zG, zB, zH, zI, zC, zJ, zK, zL, zD, zE, zF, zM, zN, zO, zP, zQ, reduceCtorEq, not_true_eq_false, not_false_eq_true]) | (first | refine vIfE_of ?_ ?_ | refine vIfD_of ?_ ?_ | refine vIfQ_of ?_ ?_ | refine vIfV_of ?_ ?_) <;> intro _ | refine And.intro (by omega) ?_ | refine drawn_q ?_ | fail)
        intro w1 hl1
        repeat' (first | (simp (disch := omega) only [push_cast, ↓reduceIte, zA, zG, zB, zH, zI, zC, zJ, zK, zL, zD, zE, zF, zM, zN, zO, zP, zQ, reduceCtorEq, not_true_eq_false, not_false_eq_true]) | (first | refine vIfE_of ?_ ?_ | refine vIfD_of ?_ ?_ | refine vIfQ_of ?_ ?_ | refine vIfV_of ?_ ?_) <;> intro _ | refine And.intro (by omega) ?_ | refine drawn_q ?_ | fail)
        exact ⟨⟨false, rfl, by simp [hne]⟩, hl.trans hl1⟩
    · have e : i = a.length := by omega
      subst e
      rw [List.take_length, hlen, List.take_length] at he
      repeat' (first | (simp (disch := omega) only [push_cast, ↓reduceIte, zA, zG, zB, zH, zI, zC, zJ, zK, zL, zD, zE, zF, zM, zN, zO, zP, zQ, reduceCtorEq, not_true_eq_false, not_false_eq_true]) | (first | refine vIfE_of ?_ ?_ | refine vIfD_of ?_ ?_ | refine vIfQ_of ?_ ?_ | refine vIfV_of ?_ ?_) <;> intro _ | refine And.intro (by omega) ?_ | refine drawn_q ?_ | fail)
      exact ⟨⟨true, rfl, by simp [he]⟩, hl⟩
  · have hne : a.map El.abs ≠ b.map El.abs := fun e => by
      have := congrArg List.length e
      simp at this
      exact hlen this
    repeat' (first | (simp (disch := omega) only [push_cast, ↓reduceIte, zA, zG, zB, zH, zI, zC, zJ, zK, zL, zD, zE, zF, zM, zN, zO, zP, zQ, reduceCtorEq, not_true_eq_false, not_false_eq_true]) | (first | refine vIfE_of ?_ ?_ | refine vIfD_of ?_ ?_ | refine vIfQ_of ?_ ?_ | refine vIfV_of ?_ ?_) <;> intro _ | refine And.intro (by omega) ?_ | refine drawn_q ?_ | fail)
    exact ⟨⟨false, rfl, by simp [hne]⟩, Later.refl _⟩
end Go.Proofs.Ythihbgpaoldbjaa
end
section
set_option linter.unusedSimpArgs false
namespace Go.Proofs.Ythihbgpaoldbjaa
open Go.Vc Go.Key Go.Stab
set_option maxRecDepth 100000
end Go.Proofs.Ythihbgpaoldbjaa
end
section
set_option linter.unusedSimpArgs false
namespace Go.Vc
open Go.Op
end Go.Vc
namespace Go.Proofs.Ythihbgpaoldbjaa
open Go.Vc Go.Key Go.Fold Go.Stab
set_option maxRecDepth 100000
def sA : ByteArray := ⟨#[97]⟩
def sM : ByteArray := ⟨#[109]⟩
def sV : ByteArray := ⟨#[118]⟩
end Go.Proofs.Ythihbgpaoldbjaa
end
section
namespace Go.Proofs.Ythihbgpaoldbjaa
open Go.Vc Go.Key Go.Fold Go.Stab
theorem gd_of {d m : List ByteArray} {e : El} (h : RtOk d.length m.length e) (hs : ScOk d m) : Gd d.length m.length e.abs :=
  ⟨h.2.2.2.2.2.2.1, h.2.2.2.2.2.2.2, h.2.2.2.1, h.1, h.2.1, by have := hs.2.2.2.1; omega, by have := hs.2.2.2.2; omega⟩
/-- The program's Fold and the document's come to one. -/
theorem fold_one {D A B : Nat} {w w' : World} {x y : Value} {e f : Int} {l : List R} (hx : FoldR D A w B x e l) (hy : FoldD D A w' y f l) :
    e = f ∧ ∃ xs ys : List El, RecS elC 4 w x xs ∧ RecS elC 4 w' y ys ∧ (∀ z ∈ xs, EIs w z) ∧ (∀ z ∈ ys, EIs w' z) ∧ xs.map El.abs = ys.map El.abs := by
  rcases hx with ⟨rfl, rfl, hb⟩ | ⟨rfl, xs, ho, hF, hE⟩
  · rcases hy with ⟨rfl, rfl, _⟩ | ⟨rfl, ys, _, hG, _⟩
    · exact ⟨rfl, [], [], RecS.nil _, RecS.nil _, by simp, by simp, rfl⟩
    · exact absurd hb hG.ok
  · rcases hy with ⟨rfl, rfl, hb⟩ | ⟨rfl, ys, hr, hG, hH⟩
    · exact absurd hb hF.ok
    · exact ⟨rfl, xs, ys, OwnR.s ho, hr, fun z hz => (hE z hz).1.is, fun z hz => (hH z hz).1, Option.some.inj (Res.one (o := some (ys.map El.abs)) (o' := some (xs.map El.abs)) (Stb.refl _) hG hF)⟩
end Go.Proofs.Ythihbgpaoldbjaa
end
section
namespace Go.Cub
open Go.Key Go.Stab Go.Fold Go.Proofs.Ythihbgpaoldbjaa
/-- Where a text stands first. -/
def fi : List ByteArray → ByteArray → Option Nat
  | [], _ => none
  | y :: l, x => if y = x then some 0 else (fi l x).map (· + 1)
theorem fi_some : ∀ {l : List ByteArray} {x : ByteArray} {k : Nat}, fi l x = some k → ∃ h : k < l.length, l[k] = x ∧ ∀ j (hj : j < k), l[j]'(by omega) ≠ x
  | [], _, _, h => by simp [fi] at h
  | y :: l, x, k, h => by
    unfold fi at h
    split at h
    · rename_i he
      cases h
      exact ⟨by simp, he, fun j hj => absurd hj (Nat.not_lt_zero _)⟩
    · rename_i he
      obtain ⟨m, hm, rfl⟩ := Option.map_eq_some_iff.1 h
      obtain ⟨h1, h2, h3⟩ := fi_some hm
      refine ⟨by simp; omega, by simpa using h2, fun j hj => ?_⟩
      cases j with
      | zero => exact he
      | succ j => exact h3 j (by omega)
theorem fi_none : ∀ {l : List ByteArray} {x : ByteArray}, fi l x = none ↔ ∀ y ∈ l, y ≠ x
  | [], _ => by simp [fi]
  | y :: l, x => by
    unfold fi
    split
    · rename_i he
      simp [he]
    · rename_i he
      rw [Option.map_eq_none_iff, fi_none]
      simp [he]
theorem fi_mk {l : List ByteArray} {x : ByteArray} {k : Nat} (h : k < l.length) (hk : l[k] = x) (hj : ∀ j (hj : j < k), l[j]'(by omega) ≠ x) : fi l x = some k := by
  cases hf : fi l x with
  | none => exact absurd hk (fi_none.1 hf _ (List.getElem_mem h))
  | some m =>
    obtain ⟨h1, h2, h3⟩ := fi_some hf
    rcases Nat.lt_trichotomy m k with g | g | g
    · exact absurd h2 (hj m g)
    · rw [g]
    · exact absurd hk (h3 k g)
abbrev Ap (b : List ByteArray) : Prop := b.Pairwise fun x y => x ≠ y
theorem ap_at {b : List ByteArray} (h : Ap b) {i j : Nat} (hi : i < b.length) (hj : j < b.length) (he : b[i] = b[j]) : i = j := by
  rcases Nat.lt_trichotomy i j with g | g | g
  · exact absurd he (List.pairwise_iff_getElem.1 h i j hi hj g)
  · exact g
  · exact absurd he.symm (List.pairwise_iff_getElem.1 h j i hj hi g)
theorem fi_at {b : List ByteArray} (h : Ap b) {k : Nat} (hk : k < b.length) : fi b b[k] = some k := fi_mk hk rfl fun j hj he => by have := ap_at h (by omega) hk he; omega
theorem fi_drop {b : List ByteArray} (h : Ap b) {s j : Nat} {x : ByteArray} (hf : fi (b.drop s) x = some j) : fi b x = some (s + j) := by
  obtain ⟨h1, h2, _⟩ := fi_some hf
  rw [List.length_drop] at h1
  rw [List.getElem_drop] at h2
  rw [← h2]
  exact fi_at h (by omega)
theorem fi_drop_none {b : List ByteArray} {s k : Nat} {x : ByteArray} (hf : fi (b.drop s) x = none) (hk : fi b x = some k) : ¬ s ≤ k := by
  intro hs
  obtain ⟨h1, h2, _⟩ := fi_some hk
  have : b[k] ∈ b.drop s := by
    have e : b[k] = (b.drop s)[k - s]'(by rw [List.length_drop]; omega) := by rw [List.getElem_drop]; congr 1; omega
    rw [e]; exact List.getElem_mem _
  exact fi_none.1 hf _ this h2
/-- Whether texts are some of others, from a place on, in their order. -/
def sub (b : List ByteArray) : Nat → List ByteArray → Bool
  | _, [] => true
  | s, n :: a => match fi b n with
    | some k => if s ≤ k then sub b (k + 1) a else false
    | none => false
theorem sub_mem {b : List ByteArray} : ∀ {a : List ByteArray} {s : Nat}, sub b s a = true → ∀ n ∈ a, ∃ k, fi b n = some k ∧ k < b.length
  | [], _, _, _, h => by simp at h
  | m :: a, s, h, n, hn => by
    unfold sub at h
    split at h
    · rename_i k hk
      split at h
      · rcases List.mem_cons.1 hn with rfl | hn
        · exact ⟨k, hk, (fi_some hk).1⟩
        · exact sub_mem h n hn
      · cases h
    · cases h
theorem sub_self {b : List ByteArray} (h : Ap b) : ∀ n s, b.length - s = n → sub b s (b.drop s) = true
  | 0, s, hn => by rw [List.drop_of_length_le (by omega)]; rfl
  | n + 1, s, hn => by
    have hs : s < b.length := by omega
    rw [List.drop_eq_getElem_cons hs]
    unfold sub
    rw [fi_at h hs]
    simp only [Nat.le_refl, if_true]
    exact sub_self h n (s + 1) (by omega)
/-- A row in a cuboid. -/
def prj (b dims : List ByteArray) (g : Int) (r : R) : R := (r.1 - r.1 % g, dims.map (fun n => r.2.1[(fi b n).getD 0]!), r.2.2.1, r.2.2.2)
theorem prj_self {b : List ByteArray} (h : Ap b) {r : R} (hr : r.2.1.length = b.length) : prj b b 1 r = r := by
  have h1 : r.1 - r.1 % 1 = r.1 := by omega
  have h2 : b.map (fun n => r.2.1[(fi b n).getD 0]!) = r.2.1 := by
    apply List.ext_getElem
    · simp [hr]
    · intro i i1 i2
      rw [List.getElem_map, fi_at h (by simpa using i1)]
      simp only [Option.getD_some]
      rw [getElem!_pos r.2.1 i i2]
  unfold prj
  rw [h1, h2]
/-- No more than there were. -/
theorem classes_le : ∀ (T l : List R), T.Pairwise (fun a b => ¬ eqv rlt a b = true) → (∀ z ∈ T, l.filter (eqv rlt z) ≠ []) → T.length ≤ l.length
  | [], _, _, _ => Nat.zero_le _
  | z :: T, l, hp, hz => by
    obtain ⟨hp1, hp2⟩ := List.pairwise_cons.1 hp
    have ih := classes_le T (l.filter fun x => !eqv rlt z x) hp2 (fun y hy => by
      have := hz y (List.mem_cons_of_mem _ hy)
      obtain ⟨q, hq⟩ := List.exists_mem_of_ne_nil _ this
      obtain ⟨h1, h2⟩ := List.mem_filter.1 hq
      have : q ∈ (l.filter fun x => !eqv rlt z x).filter (eqv rlt y) := by
        refine List.mem_filter.2 ⟨List.mem_filter.2 ⟨h1, ?_⟩, h2⟩
        have : ¬ eqv rlt z q = true := fun h3 => hp1 y hy (eqv_same.2 (by
          have a := eqv_same.1 h3
          have b := eqv_same.1 h2
          exact ⟨a.1.trans b.1.symm, a.2.trans b.2.symm⟩))
        simpa using this
      intro he
      rw [he] at this
      cases this)
    obtain ⟨q, hq⟩ := List.exists_mem_of_ne_nil _ (hz z (by simp))
    obtain ⟨h1, h2⟩ := List.mem_filter.1 hq
    have hlt : (l.filter fun x => !eqv rlt z x).length < l.length := by
      have : (l.filter fun x => !eqv rlt z x).length ≤ l.length := List.length_filter_le _ _
      rcases Nat.lt_or_ge (l.filter fun x => !eqv rlt z x).length l.length with g | g
      · exact g
      · have he : (l.filter fun x => !eqv rlt z x) = l := (List.filter_sublist).eq_of_length (by omega)
        rw [List.filter_eq_self] at he
        have := he q h1
        rw [h2] at this
        cases this
    simp only [List.length_cons]
    omega
theorem F.le {l out : List R} (h : F l out) : out.length ≤ l.length := by
  refine classes_le out l ?_ fun z hz he => ?_
  · refine List.Pairwise.imp (fun {a b} hab => ?_) h.srt
    intro he
    rw [← rlt_r (eqv_same.1 he), rlt_swo.irr] at hab
    cases hab
  · have := h.nil z he
    exact mem_ne hz this
/-! Parts that are told by their keys. -/
theorem cls_in {l : List R} {q : R → Bool} (hq : ∀ a b, Same a b → q a = q b) {c : R} (h : q c = true) : (l.filter q).filter (eqv rlt c) = l.filter (eqv rlt c) := by
  rw [List.filter_filter]
  apply List.filter_congr
  intro x _
  cases he : eqv rlt c x with
  | false => rfl
  | true => rw [← hq c x (eqv_same.1 he), h]; rfl
def ear (at_ : Int) (r : R) : Bool := decide (r.1 < at_)
theorem ear_key (at_ : Int) : ∀ a b, Same a b → ear at_ a = ear at_ b := fun a b h => by unfold ear; rw [h.1]
theorem late_key (at_ : Int) : ∀ a b, Same a b → (!ear at_ a) = (!ear at_ b) := fun a b h => by rw [ear_key at_ a b h]
theorem F.parts {l x y : List R} (at_ : Int) (hx : F (l.filter (ear at_)) x) (hy : F (l.filter fun r => !ear at_ r) y) : F l (x ++ y) := by
  have hxe : ∀ z ∈ x, ear at_ z = true := fun z hz => by
    obtain ⟨q, hq, hs⟩ := hx.mem hz
    rw [ear_key at_ z q hs]; exact (List.mem_filter.1 hq).2
  have hye : ∀ z ∈ y, ear at_ z = false := fun z hz => by
    obtain ⟨q, hq, hs⟩ := hy.mem hz
    rw [ear_key at_ z q hs]; simpa using (List.mem_filter.1 hq).2
  have nox : ∀ c, ear at_ c = false → x.filter (eqv rlt c) = [] := fun c hc => List.filter_eq_nil_iff.2 fun z hz he => by
    have := hxe z hz
    rw [← ear_key at_ c z (eqv_same.1 he), hc] at this; cases this
  have noy : ∀ c, ear at_ c = true → y.filter (eqv rlt c) = [] := fun c hc => List.filter_eq_nil_iff.2 fun z hz he => by
    have := hye z hz
    rw [← ear_key at_ c z (eqv_same.1 he), hc] at this; cases this
  refine ⟨?_, fun c hc => ?_, fun c hc => ?_⟩
  · rw [List.pairwise_append]
    refine ⟨hx.srt, hy.srt, fun a ha b hb => ?_⟩
    have h1 : a.1 < at_ := of_decide_eq_true (hxe a ha)
    have h2 : ¬ b.1 < at_ := of_decide_eq_false (hye b hb)
    have : ckey a.1 a.2.1 b.1 b.2.1 = -1 := if_pos (by omega)
    show decide (ckey a.1 a.2.1 b.1 b.2.1 < 0) = true
    rw [this]; rfl
  · rw [List.filter_append]
    cases he : ear at_ c with
    | true => rw [noy c he, hx.nil c (by rw [cls_in (ear_key at_) he]; exact hc)]; rfl
    | false => rw [nox c he, hy.nil c (by rw [cls_in (late_key at_) (by rw [he]; rfl)]; exact hc)]; rfl
  · rw [List.filter_append]
    cases he : ear at_ c with
    | true =>
      obtain ⟨z, h1, h2⟩ := hx.one c (by rw [cls_in (ear_key at_) he]; exact hc)
      rw [cls_in (ear_key at_) he] at h1
      exact ⟨z, h1, by rw [noy c he, h2]; rfl⟩
    | false =>
      obtain ⟨z, h1, h2⟩ := hy.one c (by rw [cls_in (late_key at_) (by rw [he]; rfl)]; exact hc)
      rw [cls_in (late_key at_) (by rw [he]; rfl)] at h1
      exact ⟨z, h1, by rw [nox c he, h2]; rfl⟩
theorem bad_parts {l : List R} (at_ : Int) : Bad l ↔ Bad (l.filter (ear at_)) ∨ Bad (l.filter fun r => !ear at_ r) := by
  constructor
  · rintro ⟨c, hc, hn⟩
    cases he : ear at_ c with
    | true => exact .inl ⟨c, List.mem_filter.2 ⟨hc, he⟩, by rw [cls_in (ear_key at_) he]; exact hn⟩
    | false => exact .inr ⟨c, List.mem_filter.2 ⟨hc, by rw [he]; rfl⟩, by rw [cls_in (late_key at_) (by rw [he]; rfl)]; exact hn⟩
  · rintro (⟨c, hc, hn⟩ | ⟨c, hc, hn⟩)
    · obtain ⟨h1, h2⟩ := List.mem_filter.1 hc
      exact ⟨c, h1, by rw [cls_in (ear_key at_) h2] at hn; exact hn⟩
    · obtain ⟨h1, h2⟩ := List.mem_filter.1 hc
      exact ⟨c, h1, by rw [cls_in (late_key at_) h2] at hn; exact hn⟩
theorem floor_lt {t g m : Int} (hg : 0 < g) : t - t % g < g * m ↔ t < g * m := by
  have e : t - t % g = g * (t / g) := by have := Int.mul_ediv_add_emod t g; omega
  rw [e]
  constructor
  · intro h
    have h1 : t / g < m := Int.lt_of_mul_lt_mul_left h (by omega)
    have h2 := (Int.ediv_lt_iff_lt_mul hg).1 h1
    rwa [Int.mul_comm] at h2
  · intro h
    have h1 : t / g < m := (Int.ediv_lt_iff_lt_mul hg).2 (by rwa [Int.mul_comm])
    exact Int.mul_lt_mul_of_pos_left h1 hg
/-- The rows of a part, in the cuboid, are the part of the rows in the cuboid. -/
theorem prj_parts {b dims : List ByteArray} {g m : Int} (hg : 0 < g) (l : List R) : (l.filter (ear (g * m))).map (prj b dims g) = (l.map (prj b dims g)).filter (ear (g * m)) ∧ (l.filter fun r => !ear (g * m) r).map (prj b dims g) = (l.map (prj b dims g)).filter fun r => !ear (g * m) r := by
  have e : ∀ r : R, ear (g * m) (prj b dims g r) = ear (g * m) r := fun r => decide_eq_decide.2 (floor_lt hg)
  constructor
  · rw [List.filter_map]
    congr 1
    apply List.filter_congr
    intro r _
    exact (e r).symm
  · rw [List.filter_map]
    congr 1
    apply List.filter_congr
    intro r _
    show (!ear (g * m) r) = (!ear (g * m) (prj b dims g r))
    rw [e]
/-- Without any dimension: one for each bucket, at most. -/
theorem gaps {b : List ByteArray} {g : Int} (hg : 0 < g) {l : List R} {out : List R} (h : F (l.map (prj b [] g)) out) : ∀ i (hi : i + 1 < out.length), (out[i]'(by omega)).1 + g ≤ out[i + 1].1 := by
  intro i hi
  have key : ∀ z ∈ out, z.2.1 = [] ∧ ∃ q, z.1 = g * q := fun z hz => by
    obtain ⟨y, hy, hs⟩ := h.mem hz
    obtain ⟨r, hr, rfl⟩ := List.mem_map.1 hy
    refine ⟨hs.2, r.1 / g, hs.1.trans ?_⟩
    show r.1 - r.1 % g = g * (r.1 / g)
    have := Int.mul_ediv_add_emod r.1 g
    omega
  have hlt := List.pairwise_iff_getElem.1 h.srt i (i + 1) (by omega) hi (by omega)
  obtain ⟨d1, q1, e1⟩ := key _ (List.getElem_mem (show i < out.length by omega))
  obtain ⟨d2, q2, e2⟩ := key _ (List.getElem_mem hi)
  have hlt : ckey (out[i]'(by omega)).1 (out[i]'(by omega)).2.1 out[i + 1].1 out[i + 1].2.1 < 0 := of_decide_eq_true hlt
  rw [d1, d2] at hlt
  have ht : (out[i]'(by omega)).1 < out[i + 1].1 := by
    apply Classical.byContradiction
    intro hn
    unfold ckey at hlt
    rw [if_neg hn] at hlt
    split at hlt
    · omega
    · simp [clist] at hlt
  rw [e1, e2] at ht ⊢
  have hq : q1 < q2 := Int.lt_of_mul_lt_mul_left ht (by omega)
  have : g * (q1 + 1) ≤ g * q2 := Int.mul_le_mul_of_nonneg_left (by omega) (by omega)
  rw [Int.mul_add, Int.mul_one] at this
  exact this
end Go.Cub
end
