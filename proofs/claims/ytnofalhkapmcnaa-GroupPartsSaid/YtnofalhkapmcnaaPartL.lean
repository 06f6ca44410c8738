/- Groups changed for one another, turned about (printed by mk25.py out of XSort1). -/
import Derived.ArgAppend
import Derived.Test.YtnofalhkapmcnaaPartK
set_option linter.all false
open Nat renaming reduceEqDiff → zA, reducePow → zB, reduceMul → zC, reduceAdd → zD, reduceSub → zE, reduceLeDiff → zF
open Int renaming reduceToNat → zG, reducePow → zH, reduceNeg → zI, reduceMul → zJ, reduceAdd → zK, reduceSub → zL, reduceLT → zM, reduceLE → zN, reduceEq → zO, reduceMod → zP, reduceDiv → zQ
section
set_option linter.unusedSimpArgs false
namespace Go.Proofs.Ytnofalhkapmcnaa
open Go.Vc Go.Key Go.Stab
set_option maxRecDepth 100000
variable {kb : Nat} {od : Int}
structure Sg (w : World) (B B' g c : Nat) (L l : List (Ge kb od)) : Prop where
  own : OwnG w B (.slice (some ⟨g, 0, none⟩) l.length c) l
  els : ∀ e ∈ L, EG w B' e
  sub : ∀ e ∈ l, e ∈ L
  big : l.length ≤ 1000000
theorem Sg.later {w w' : World} {B B' g c : Nat} {L l : List (Ge kb od)} (h : Sg w B B' g c L l) (hl : Later w w') : Sg w' B B' g c L l := ⟨h.own.later hl, fun e he => (h.els e he).later hl, h.sub, h.big⟩
theorem Sg.at {w : World} {B B' g c : Nat} {L l : List (Ge kb od)} (h : Sg w B B' g c L l) {i : Nat} (hi : i < l.length) : cellsAt w ⟨g, i * 3, none⟩ 3 = some (geC l[i]!) := by
  rw [getElem!_pos l i hi]
  have := RecS.get geC_len h.own.s hi
  rwa [addr_add_eq, Nat.zero_add] at this
theorem Sg.elAt {w : World} {B B' g c : Nat} {L l : List (Ge kb od)} (h : Sg w B B' g c L l) {i : Nat} (hi : i < l.length) : EG w B' l[i]! := by
  rw [getElem!_pos l i hi]
  exact h.els _ (h.sub _ (List.getElem_mem _))
theorem Sg.store {w : World} {B B' g c : Nat} {L l : List (Ge kb od)} (h : Sg w B B' g c L l) {i : Nat} (hi : i < l.length) {e : (Ge kb od)} (he : e ∈ L) {K : Value → World → Prop} (hK : ∀ w', Sg w' B B' g c L (l.set i e) → Chg w w' [g] → K undef w') :
    vStoreD Try.prog 113 (some 3) (.pointer (some ⟨g, i * 3, none⟩)) (.agg (geC e).toArray) K w := by
  obtain ⟨g', eg, hB, ⟨cs, hb⟩, hcan, ho, hc⟩ := OwnR.set geC_len h.own hi e
  have eg' : g = g' := by have := congrArg Addr.block eg; simpa using this
  subst eg'
  rw [addr_add_eq, Nat.zero_add] at hcan ho hc
  refine ⟨rfl, ?_, ?_, ?_⟩
  · simpa [Value.cells] using geC_one (h.els e he).is
  · simpa [Value.cells] using hcan
  · have e1 : (Value.agg (geC e).toArray).cells.toList = geC e := by simp [Value.cells]
    rw [e1]
    refine hK _ ⟨by simpa using ho, fun x hx => (h.els x hx).chg hb hc, fun x hx => ?_, by simpa using h.big⟩ hc
    rcases List.mem_or_eq_of_mem_set hx with hx | rfl
    · exact h.sub x hx
    · exact he
theorem Sg.mem {w : World} {B B' g c : Nat} {L l : List (Ge kb od)} (h : Sg w B B' g c L l) {i : Nat} (hi : i < l.length) : l[i]! ∈ L := by rw [getElem!_pos l i hi]; exact h.sub _ (List.getElem_mem _)
theorem gswapRange_c (B B' g c : Nat) (L l : List (Ge kb od)) (a b k : Nat) (w : World) (h : Sg w B B' g c L l) (ha : a + k ≤ l.length) (hb : b + k ≤ l.length) :
    FnC Try.prog 169 #[.slice (some ⟨g, 0, none⟩) l.length c, .int .i64 a, .int .i64 b, .int .i64 k, (cmpG kb)] w fun r w' => Sg w' B B' g c L (swps l a b k) ∧ Chg w w' [g] := by
  have hbig := h.big
  refine enter169 _ _ _ _ _ ?_
  unfold B169
  repeat' (first | (simp (disch := omega) only [push_cast, ↓reduceIte, zA, zG, zB, zH, zI, zC, zJ, zK, zL, zD, zE, zF, zM, zN, zO, zP, zQ, reduceCtorEq]) | refine iX ?_ ?_ <;> intro _ | refine And.intro (by omega) ?_ | refine dq ?_)
  refine vc_loop W169_0 (fun i : Nat => [(10, .int .i64 (i : Int))]) (fun i w' => i ≤ k ∧ Sg w' B B' g c L (swps l a b i) ∧ Chg w w' [g]) (fun i => k - i) 0 (by decide) ?_ ?_ ?_
  · simp (disch := omega) only [push_cast, ↓reduceIte, zA, zG, zB, zH, zI, zC, zJ, zK, zL, zD, zE, zF, zM, zN, zO, zP, zQ, reduceCtorEq]
  · exact ⟨by omega, h, Chg.refl _ _⟩
  rintro i uu w1 ⟨hi, h1, c1⟩
  have hlen := swps_len l a b i
  by_cases hlt : i < k
  · have ea : ((a : Int) + (i : Int)).toNat = a + i := by omega
    have eb : ((b : Int) + (i : Int)).toNat = b + i := by omega
    have fa := h1.at (i := a + i) (by omega)
    have fb := h1.at (i := b + i) (by omega)
    repeat' (first | (simp (disch := omega) only [push_cast, ↓reduceIte, zA, zG, zB, zH, zI, zC, zJ, zK, zL, zD, zE, zF, zM, zN, zO, zP, zQ, reduceCtorEq]) | refine iX ?_ ?_ <;> intro _ | refine And.intro (by omega) ?_ | fail)
    refine drawnS_k 21 ?_
    repeat' (first | (simp (disch := omega) only [push_cast, ↓reduceIte, zA, zG, zB, zH, zI, zC, zJ, zK, zL, zD, zE, zF, zM, zN, zO, zP, zQ, reduceCtorEq, ea, eb, fa, fb]) | refine iX ?_ ?_ <;> intro _ | refine And.intro (by omega) ?_ | fail)
    refine ⟨rfl, fun w2 l2 => ⟨by simp (disch := omega) only [push_cast, ↓reduceIte, zA, zG, zB, zH, zI, zC, zJ, zK, zL, zD, zE, zF, zM, zN, zO, zP, zQ, reduceCtorEq, implies_true, and_self], ?_⟩⟩
    have h2 := h1.later l2
    have c2 := c1.trans (Chg.of_later l2)
    repeat' (first | (simp (disch := omega) only [push_cast, ↓reduceIte, zA, zG, zB, zH, zI, zC, zJ, zK, zL, zD, zE, zF, zM, zN, zO, zP, zQ, reduceCtorEq, ea, eb]) | refine iX ?_ ?_ <;> intro _ | refine And.intro (by omega) ?_ | fail)
    refine h2.store (i := a + i) (by omega) (h2.mem (i := b + i) (by omega)) fun w3 h3 c3 => ?_
    repeat' (first | (simp (disch := omega) only [push_cast, ↓reduceIte, zA, zG, zB, zH, zI, zC, zJ, zK, zL, zD, zE, zF, zM, zN, zO, zP, zQ, reduceCtorEq, eb]) | refine iX ?_ ?_ <;> intro _ | refine And.intro (by omega) ?_ | fail)
    refine h3.store (i := b + i) (by simp; omega) (h2.mem (i := a + i) (by omega)) fun w4 h4 c4 => ?_
    repeat' (first | (simp (disch := omega) only [push_cast, ↓reduceIte, zA, zG, zB, zH, zI, zC, zJ, zK, zL, zD, zE, zF, zM, zN, zO, zP, zQ, reduceCtorEq]) | refine iX ?_ ?_ <;> intro _ | refine And.intro (by omega) ?_ | refine dq ?_)
    exact ⟨rfl, i + 1, by simp (disch := omega) only [push_cast, ↓reduceIte, zA, zG, zB, zH, zI, zC, zJ, zK, zL, zD, zE, zF, zM, zN, zO, zP, zQ, reduceCtorEq], ⟨by omega, h4, (c2.trans c3).trans c4⟩, by dsimp only; omega⟩
  · have e : i = k := by omega
    subst e
    repeat' (first | (simp (disch := omega) only [push_cast, ↓reduceIte, zA, zG, zB, zH, zI, zC, zJ, zK, zL, zD, zE, zF, zM, zN, zO, zP, zQ, reduceCtorEq]) | refine iX ?_ ?_ <;> intro _ | refine And.intro (by omega) ?_ | refine dq ?_)
    first | exact ⟨h1, c1⟩ | exact c1
theorem grotate_c (B B' g c : Nat) (L X u v Y : List (Ge kb od)) (w : World) (h : Sg w B B' g c L (X ++ u ++ v ++ Y)) (hu : 0 < u.length) (hv : 0 < v.length) :
    FnC Try.prog 160 #[.slice (some ⟨g, 0, none⟩) (X ++ u ++ v ++ Y).length c, .int .i64 X.length, .int .i64 ((X.length + u.length : Nat) : Int), .int .i64 ((X.length + u.length + v.length : Nat) : Int), (cmpG kb)] w fun r w' => Sg w' B B' g c L (X ++ v ++ u ++ Y) ∧ Chg w w' [g] := by
  have hbig := h.big
  have hlen : (X ++ u ++ v ++ Y).length = X.length + u.length + v.length + Y.length := by simp; omega
  rw [hlen] at hbig
  generalize hN : (X ++ u ++ v ++ Y).length = N at *
  refine enter160 _ _ _ _ _ ?_
  unfold B160
  have ei : ((X.length + u.length : Nat) : Int) - (X.length : Int) = (u.length : Int) := by omega
  have ej : ((X.length + u.length + v.length : Nat) : Int) - ((X.length + u.length : Nat) : Int) = (v.length : Int) := by omega
  generalize hm : X.length + u.length = m at *
  have ej' : (m : Int) + (v.length : Int) - (m : Int) = (v.length : Int) := by omega
  repeat' (first | (simp (disch := omega) only [push_cast, ↓reduceIte, zA, zG, zB, zH, zI, zC, zJ, zK, zL, zD, zE, zF, zM, zN, zO, zP, zQ, reduceCtorEq, ei, ej]) | refine iX ?_ ?_ <;> intro _ | refine And.intro (by omega) ?_ | refine dq ?_)
  refine vc_loop W160_0 (fun p : Nat × Nat => [(10, .int .i64 (p.1 : Int)), (11, .int .i64 (p.2 : Int))])
    (fun p w' => ∃ dl P Q dr, P.length = p.1 ∧ Q.length = p.2 ∧ 0 < p.1 ∧ 0 < p.2 ∧ X.length + dl.length + P.length = m ∧ v ++ u = dl ++ Q ++ P ++ dr ∧ Sg w' B B' g c L (X ++ dl ++ P ++ Q ++ (dr ++ Y)) ∧ Chg w w' [g]) (fun p => p.1 + p.2) (u.length, v.length) (by decide) ?_ ?_ ?_
  · simp (disch := omega) only [push_cast, ↓reduceIte, zA, zG, zB, zH, zI, zC, zJ, zK, zL, zD, zE, zF, zM, zN, zO, zP, zQ, reduceCtorEq, ei, ej, ej']
  · exact ⟨[], u, v, [], rfl, rfl, hu, hv, by simp; omega, by simp, by simpa using h, Chg.refl _ _⟩
  rintro ⟨i, j⟩ uu w1 ⟨dl, P, Q, dr, hP, hQ, hi0, hj0, hmP, hvu, h1, c1⟩
  dsimp only at hP hQ hi0 hj0
  have htot := congrArg List.length hvu
  simp only [List.length_append] at htot
  have hLn : (X ++ dl ++ P ++ Q ++ (dr ++ Y)).length = N := by simp only [List.length_append]; omega
  rcases Nat.lt_trichotomy i j with hij | hij | hij
  · obtain ⟨Q1, Q2, rfl, q2, q1, hs⟩ := rot_lt (X := X ++ dl) (P := P) (Q := Q) (Y := dr ++ Y) (by omega)
    have h1' := gswapRange_c B B' g c L (X ++ dl ++ P ++ (Q1 ++ Q2) ++ (dr ++ Y)) (X ++ dl).length ((X ++ dl).length + (Q1 ++ Q2).length) P.length w1 h1 (by simp only [List.length_append]; omega) (by simp only [List.length_append] at *; omega)
    rw [hs, hLn] at h1'
    have a1 : ((X ++ dl).length : Int) = (m : Int) - (i : Int) := by rw [List.length_append]; omega
    have a2 : (((X ++ dl).length + (Q1 ++ Q2).length : Nat) : Int) = (m : Int) + (j : Int) - (i : Int) := by rw [List.length_append, hQ]; omega
    rw [a1, a2, hP] at h1'
    have hjo := hQ
    rw [List.length_append] at hjo
    repeat' (first | (simp (disch := omega) only [push_cast, ↓reduceIte, zA, zG, zB, zH, zI, zC, zJ, zK, zL, zD, zE, zF, zM, zN, zO, zP, zQ, reduceCtorEq]) | refine iX ?_ ?_ <;> intro _ | refine And.intro (by omega) ?_ | refine dq ?_)
    refine h1'.mono ?_
    rintro _ w2 ⟨h2, c2⟩
    repeat' (first | (simp (disch := omega) only [push_cast, ↓reduceIte, zA, zG, zB, zH, zI, zC, zJ, zK, zL, zD, zE, zF, zM, zN, zO, zP, zQ, reduceCtorEq]) | refine iX ?_ ?_ <;> intro _ | refine And.intro (by omega) ?_ | refine dq ?_)
    refine ⟨rfl, (i, j - i), by simp (disch := omega) only [push_cast, ↓reduceIte, zA, zG, zB, zH, zI, zC, zJ, zK, zL, zD, zE, zF, zM, zN, zO, zP, zQ, reduceCtorEq], ⟨dl, Q2, Q1, P ++ dr, by dsimp only; omega, by dsimp only; omega, by dsimp only; omega, by dsimp only; omega, by omega, ?_, by simpa using h2, c1.trans c2⟩, by dsimp only; omega⟩
    rw [hvu]; simp
  · subst hij
    have hs := rot_eq (X := X ++ dl) (P := P) (Q := Q) (Y := dr ++ Y) (by omega)
    have h1' := gswapRange_c B B' g c L (X ++ dl ++ P ++ Q ++ (dr ++ Y)) (X ++ dl).length ((X ++ dl).length + P.length) P.length w1 h1 (by simp only [List.length_append]; omega) (by simp only [List.length_append]; omega)
    rw [hs, hLn] at h1'
    have a1 : ((X ++ dl).length : Int) = (m : Int) - (i : Int) := by rw [List.length_append]; omega
    have a2 : (((X ++ dl).length + P.length : Nat) : Int) = (m : Int) := by rw [List.length_append]; omega
    rw [a1, a2, hP] at h1'
    repeat' (first | (simp (disch := omega) only [push_cast, ↓reduceIte, zA, zG, zB, zH, zI, zC, zJ, zK, zL, zD, zE, zF, zM, zN, zO, zP, zQ, reduceCtorEq]) | refine iX ?_ ?_ <;> intro _ | refine And.intro (by omega) ?_ | refine dq ?_)
    refine h1'.mono ?_
    rintro _ w2 ⟨h2, c2⟩
    have hf : Sg w2 B B' g c L (X ++ v ++ u ++ Y) := by
      have e : X ++ v ++ u ++ Y = X ++ dl ++ Q ++ P ++ (dr ++ Y) := by
        rw [List.append_assoc X v u, hvu]; simp
      rw [e]; exact h2
    repeat' (first | (simp (disch := omega) only [push_cast, ↓reduceIte, zA, zG, zB, zH, zI, zC, zJ, zK, zL, zD, zE, zF, zM, zN, zO, zP, zQ, reduceCtorEq]) | refine iX ?_ ?_ <;> intro _ | refine And.intro (by omega) ?_ | refine dq ?_)
    first | exact ⟨hf, (c1.trans c2)⟩ | exact (c1.trans c2)
  · obtain ⟨P1, P2, rfl, q1, q2, hs⟩ := rot_gt (X := X ++ dl) (P := P) (Q := Q) (Y := dr ++ Y) (by omega)
    have h1' := gswapRange_c B B' g c L (X ++ dl ++ (P1 ++ P2) ++ Q ++ (dr ++ Y)) (X ++ dl).length ((X ++ dl).length + (P1 ++ P2).length) Q.length w1 h1 (by simp only [List.length_append] at *; omega) (by simp only [List.length_append] at *; omega)
    rw [hs, hLn] at h1'
    have a1 : ((X ++ dl).length : Int) = (m : Int) - (i : Int) := by rw [List.length_append]; omega
    have a2 : (((X ++ dl).length + (P1 ++ P2).length : Nat) : Int) = (m : Int) := by rw [List.length_append]; omega
    rw [a1, a2, hQ] at h1'
    have hio := hP
    rw [List.length_append] at hio
    repeat' (first | (simp (disch := omega) only [push_cast, ↓reduceIte, zA, zG, zB, zH, zI, zC, zJ, zK, zL, zD, zE, zF, zM, zN, zO, zP, zQ, reduceCtorEq]) | refine iX ?_ ?_ <;> intro _ | refine And.intro (by omega) ?_ | refine dq ?_)
    refine h1'.mono ?_
    rintro _ w2 ⟨h2, c2⟩
    repeat' (first | (simp (disch := omega) only [push_cast, ↓reduceIte, zA, zG, zB, zH, zI, zC, zJ, zK, zL, zD, zE, zF, zM, zN, zO, zP, zQ, reduceCtorEq]) | refine iX ?_ ?_ <;> intro _ | refine And.intro (by omega) ?_ | refine dq ?_)
    refine ⟨rfl, (i - j, j), by simp (disch := omega) only [push_cast, ↓reduceIte, zA, zG, zB, zH, zI, zC, zJ, zK, zL, zD, zE, zF, zM, zN, zO, zP, zQ, reduceCtorEq], ⟨dl ++ Q, P2, P1, dr, by dsimp only; omega, by dsimp only; omega, by dsimp only; omega, by dsimp only; omega, by simp only [List.length_append]; omega, ?_, by simpa using h2, c1.trans c2⟩, by dsimp only; omega⟩
    rw [hvu]; simp
end Go.Proofs.Ytnofalhkapmcnaa
end
section
set_option linter.unusedSimpArgs false
namespace Go.Proofs.Ytnofalhkapmcnaa
open Go.Vc Go.Key Go.Stab
set_option maxRecDepth 100000
variable {kb : Nat} {od : Int}
theorem gsw_near (A B : List (Ge kb od)) (p e : (Ge kb od)) : sw (A ++ p :: (e :: B)) (A.length + 1) A.length = A ++ e :: (p :: B) := by
  rw [sw_comm _ _ _ (by simp) (by simp)]
  have := sw_app A [] B p e
  simpa using this
set_option maxHeartbeats 1000000 in
theorem ginsertion_c (B B' g c : Nat) (L X M Y : List (Ge kb od)) (w : World) (h : Sg w B B' g c L (X ++ M ++ Y)) :
    FnC Try.prog 142 #[.slice (some ⟨g, 0, none⟩) (X ++ M ++ Y).length c, .int .i64 X.length, .int .i64 ((X.length + M.length : Nat) : Int), (cmpG kb)] w fun r w' => ∃ M', Srt glt M' ∧ Stb glt M M' ∧ Sg w' B B' g c L (X ++ M' ++ Y) ∧ Chg w w' [g] := by
  have hs := (glt_swo (kb := kb) (od := od))
  have hbig := h.big
  have hlen : (X ++ M ++ Y).length = X.length + M.length + Y.length := by simp; omega
  rw [hlen] at hbig
  generalize hN : (X ++ M ++ Y).length = N at *
  refine enter142 _ _ _ _ ?_
  unfold B142
  repeat' (first | (simp (disch := omega) only [push_cast, ↓reduceIte, zA, zG, zB, zH, zI, zC, zJ, zK, zL, zD, zE, zF, zM, zN, zO, zP, zQ, reduceCtorEq]) | refine iX ?_ ?_ <;> intro _ | refine And.intro (by omega) ?_ | refine dq ?_)
  refine vc_loop W142_0 (fun i : Nat => [(8, .int .i64 ((X.length : Int) + 1 + (i : Int)))])
    (fun i w' => i ≤ M.length ∧ ∃ S, S.length = (M.take (i + 1)).length ∧ Srt glt S ∧ Stb glt (M.take (i + 1)) S ∧ Sg w' B B' g c L (X ++ S ++ (M.drop (i + 1) ++ Y)) ∧ Chg w w' [g]) (fun i => M.length - i) 0 (by decide) ?_ ?_ ?_
  · simp (disch := omega) only [push_cast, ↓reduceIte, zA, zG, zB, zH, zI, zC, zJ, zK, zL, zD, zE, zF, zM, zN, zO, zP, zQ, reduceCtorEq, Int.add_zero]
  · refine ⟨by omega, M.take 1, rfl, ?_, Stb.refl _, ?_, Chg.refl _ _⟩
    · cases M with
      | nil => exact srt_nil
      | cons a M => simp [Srt]
    · have e : X ++ M.take (0 + 1) ++ (M.drop (0 + 1) ++ Y) = X ++ M ++ Y := by
        rw [List.append_assoc X, ← List.append_assoc (M.take _), List.take_append_drop, ← List.append_assoc]
      rw [e]; exact h
  rintro i uu w1 ⟨hi, S, hS, sS, tS, h1, c1⟩
  have hL1 : (X ++ S ++ (M.drop (i + 1) ++ Y)).length = N := by
    simp only [List.length_append, List.length_drop]
    rw [List.length_take] at hS
    omega
  by_cases hlt : i + 1 < M.length
  · obtain ⟨e, he⟩ : ∃ e, e = M[i + 1] := ⟨_, rfl⟩
    have hdr : M.drop (i + 1) = e :: M.drop (i + 2) := by rw [List.drop_eq_getElem_cons hlt, he]
    have htk : M.take (i + 2) = M.take (i + 1) ++ [e] := by rw [take_snoc M (i + 1) hlt, he]
    have hSl : S.length = i + 1 := by rw [hS, List.length_take]; omega
    rw [hdr] at h1
    generalize hR : M.drop (i + 2) = R at *
    repeat' (first | (simp (disch := omega) only [push_cast, ↓reduceIte, zA, zG, zB, zH, zI, zC, zJ, zK, zL, zD, zE, zF, zM, zN, zO, zP, zQ, reduceCtorEq]) | refine iX ?_ ?_ <;> intro _ | refine And.intro (by omega) ?_ | refine dq ?_)
    refine vc_loop W142_1 (fun k : Nat => [(9, .int .i64 ((X.length : Int) + (k : Int)))])
      (fun k w' => ∃ S1 S2, S = S1 ++ S2 ∧ S1.length = k ∧ (∀ s ∈ S2, glt e s = true) ∧ Sg w' B B' g c L ((X ++ S1) ++ e :: (S2 ++ (R ++ Y))) ∧ Chg w w' [g]) (fun k => k) (i + 1) (by decide) ?_ ?_ ?_
    · have e1 : (X.length : Int) + 1 + (i : Int) = (X.length : Int) + ((i : Int) + 1) := by omega
      simp (disch := omega) only [push_cast, ↓reduceIte, zA, zG, zB, zH, zI, zC, zJ, zK, zL, zD, zE, zF, zM, zN, zO, zP, zQ, reduceCtorEq, e1]
    · exact ⟨S, [], by simp, hSl, by simp, by simpa using h1, c1⟩
    rintro k uu2 w2 ⟨S1, S2, hSS, hk, hS2, h2, c2⟩
    have hL2 : ((X ++ S1) ++ e :: (S2 ++ (R ++ Y))).length = N := by
      rw [← hL1, hSS]
      simp only [List.length_append, List.length_cons, hdr]
      omega
    have hXk : (X ++ S1).length = X.length + k := by rw [List.length_append, hk]
    have hkN : X.length + k < N := by rw [← hL2, ← hXk]; simp
    have fin : ∀ w3, Later w2 w3 → (S1 = [] ∨ ∃ T p, S1 = T ++ [p] ∧ glt e p = false) → ∃ S', S'.length = (M.take (i + 1 + 1)).length ∧ Srt glt S' ∧ Stb glt (M.take (i + 1 + 1)) S' ∧ Sg w3 B B' g c L (X ++ S' ++ (M.drop (i + 1 + 1) ++ Y)) ∧ Chg w w3 [g] := by
      intro w3 l3 hp
      refine ⟨S1 ++ e :: S2, ?_, ins_srt hs (by rw [← hSS]; exact sS) hp hS2, ?_, ?_, c2.trans (Chg.of_later l3)⟩
      · rw [htk, List.length_append, List.length_append, ← hS, hSS]; simp; omega
      · rw [htk]
        have := (tS.append (Stb.refl (lt := glt) [e])).trans (by rw [hSS]; exact ins_stb hs hS2)
        exact this
      · have := h2.later l3
        rw [show M.drop (i + 1 + 1) = R from hR]
        simpa using this
    rcases Nat.eq_zero_or_pos k with hk0 | hk0
    · subst hk0
      have hS1 : S1 = [] := List.length_eq_zero_iff.1 hk
      repeat' (first | (simp (disch := omega) only [push_cast, ↓reduceIte, zA, zG, zB, zH, zI, zC, zJ, zK, zL, zD, zE, zF, zM, zN, zO, zP, zQ, reduceCtorEq]) | refine iX ?_ ?_ <;> intro _ | refine And.intro (by omega) ?_ | refine dq ?_)
      intro w3 l3
      repeat' (first | (simp (disch := omega) only [push_cast, ↓reduceIte, zA, zG, zB, zH, zI, zC, zJ, zK, zL, zD, zE, zF, zM, zN, zO, zP, zQ, reduceCtorEq]) | refine iX ?_ ?_ <;> intro _ | refine And.intro (by omega) ?_ | refine dq ?_)
      have e1 : (X.length : Int) + 1 + (i : Int) + 1 = (X.length : Int) + 1 + ((i : Int) + 1) := by omega
      exact ⟨rfl, i + 1, by simp (disch := omega) only [push_cast, ↓reduceIte, zA, zG, zB, zH, zI, zC, zJ, zK, zL, zD, zE, zF, zM, zN, zO, zP, zQ, reduceCtorEq, e1], ⟨by omega, fin w3 l3 (.inl hS1)⟩, by dsimp only; omega⟩
    · obtain ⟨T, p, rfl⟩ : ∃ T p, S1 = T ++ [p] := ⟨S1.dropLast, S1.getLast (by intro h; rw [h] at hk; simp at hk; omega), (List.dropLast_concat_getLast _).symm⟩
      have hTk : (X ++ T).length + 1 = X.length + k := by rw [← hXk]; simp; omega
      have hcur : (X ++ (T ++ [p])) ++ e :: (S2 ++ (R ++ Y)) = (X ++ T) ++ p :: (e :: (S2 ++ (R ++ Y))) := by simp
      have ge : ((X ++ (T ++ [p])) ++ e :: (S2 ++ (R ++ Y)))[X.length + k]! = e := by rw [← hXk]; exact get_app _ _ _
      have gp : ((X ++ (T ++ [p])) ++ e :: (S2 ++ (R ++ Y)))[X.length + k - 1]! = p := by
        have : X.length + k - 1 = (X ++ T).length := by omega
        rw [this, hcur]; exact get_app _ _ _
      have fe := h2.at (i := X.length + k) (by omega)
      have fp := h2.at (i := X.length + k - 1) (by omega)
      have oe := h2.elAt (i := X.length + k) (by omega)
      have op := h2.elAt (i := X.length + k - 1) (by omega)
      rw [ge] at fe oe
      rw [gp] at fp op
      have t1 : ((X.length : Int) + (k : Int)).toNat = X.length + k := by omega
      have t2 : ((X.length : Int) + (k : Int) - 1).toNat = X.length + k - 1 := by omega
      have hcmp : glt e p = decide (gcmp e p < 0) := rfl
      repeat' (first | (simp (disch := omega) only [push_cast, ↓reduceIte, zA, zG, zB, zH, zI, zC, zJ, zK, zL, zD, zE, zF, zM, zN, zO, zP, zQ, reduceCtorEq, t1, t2, fe, fp]) | refine iX ?_ ?_ <;> intro _ | refine And.intro (by omega) ?_ | refine dq ?_)
      refine QFn.of hb67 (v := .int .i64 (gcmp e p)) (fun w' hl => gcompare_c e p w' (oe.is.later hl) (op.is.later hl)) ?_
      by_cases hlt2 : gcmp e p < 0
      · repeat' (first | (simp (disch := omega) only [push_cast, ↓reduceIte, zA, zG, zB, zH, zI, zC, zJ, zK, zL, zD, zE, zF, zM, zN, zO, zP, zQ, reduceCtorEq]) | refine iX ?_ ?_ <;> intro _ | refine And.intro (by omega) ?_ | refine dq ?_)
        intro w3 l3
        have h3 := h2.later l3
        have fe := h3.at (i := X.length + k) (by omega)
        have fp := h3.at (i := X.length + k - 1) (by omega)
        rw [ge] at fe
        rw [gp] at fp
        repeat' (first | (simp (disch := omega) only [push_cast, ↓reduceIte, zA, zG, zB, zH, zI, zC, zJ, zK, zL, zD, zE, zF, zM, zN, zO, zP, zQ, reduceCtorEq]) | refine iX ?_ ?_ <;> intro _ | refine And.intro (by omega) ?_ | fail)
        refine drawnS_k 15 ?_
        repeat' (first | (simp (disch := omega) only [push_cast, ↓reduceIte, zA, zG, zB, zH, zI, zC, zJ, zK, zL, zD, zE, zF, zM, zN, zO, zP, zQ, reduceCtorEq, t1, t2, fe, fp]) | refine iX ?_ ?_ <;> intro _ | refine And.intro (by omega) ?_ | fail)
        refine ⟨rfl, fun w4 l4 => ⟨by simp (disch := omega) only [push_cast, ↓reduceIte, zA, zG, zB, zH, zI, zC, zJ, zK, zL, zD, zE, zF, zM, zN, zO, zP, zQ, reduceCtorEq, implies_true, and_self], ?_⟩⟩
        have h4 := h3.later l4
        repeat' (first | (simp (disch := omega) only [push_cast, ↓reduceIte, zA, zG, zB, zH, zI, zC, zJ, zK, zL, zD, zE, zF, zM, zN, zO, zP, zQ, reduceCtorEq, t1, t2]) | refine iX ?_ ?_ <;> intro _ | refine And.intro (by omega) ?_ | fail)
        have mp := h4.mem (i := X.length + k - 1) (by omega)
        have me := h4.mem (i := X.length + k) (by omega)
        rw [gp] at mp
        rw [ge] at me
        refine h4.store (i := X.length + k) (by omega) mp fun w5 h5 c5 => ?_
        repeat' (first | (simp (disch := omega) only [push_cast, ↓reduceIte, zA, zG, zB, zH, zI, zC, zJ, zK, zL, zD, zE, zF, zM, zN, zO, zP, zQ, reduceCtorEq, t2]) | refine iX ?_ ?_ <;> intro _ | refine And.intro (by omega) ?_ | fail)
        refine h5.store (i := X.length + k - 1) (by simp only [List.length_set]; omega) me fun w6 h6 c6 => ?_
        have e6 : ((((X ++ (T ++ [p])) ++ e :: (S2 ++ (R ++ Y))).set (X.length + k) p).set (X.length + k - 1) e) = (X ++ T) ++ e :: ((p :: S2) ++ (R ++ Y)) := by
          have := gsw_near (X ++ T) (S2 ++ (R ++ Y)) p e
          rw [← hcur, hTk] at this
          rw [show X.length + k - 1 = (X ++ T).length by omega]
          unfold sw at this
          rw [ge, show ((X ++ (T ++ [p])) ++ e :: (S2 ++ (R ++ Y)))[(X ++ T).length]! = p by rw [hcur]; exact get_app _ _ _] at this
          simpa using this
        rw [e6] at h6
        have e7 : (X.length : Int) + (k : Int) - 1 = (X.length : Int) + ((k - 1 : Nat) : Int) := by omega
        repeat' (first | (simp (disch := omega) only [push_cast, ↓reduceIte, zA, zG, zB, zH, zI, zC, zJ, zK, zL, zD, zE, zF, zM, zN, zO, zP, zQ, reduceCtorEq, e7]) | refine iX ?_ ?_ <;> intro _ | refine And.intro (by omega) ?_ | refine dq ?_)
        exact ⟨rfl, k - 1, by simp (disch := omega) only [push_cast, ↓reduceIte, zA, zG, zB, zH, zI, zC, zJ, zK, zL, zD, zE, zF, zM, zN, zO, zP, zQ, reduceCtorEq, e7], ⟨T, p :: S2, by rw [hSS]; simp, by simp at hk; omega, by
          intro s hs'
          rcases List.mem_cons.1 hs' with rfl | hs'
          · rw [hcmp]; exact decide_eq_true hlt2
          · exact hS2 s hs', h6, ((c2.trans (Chg.of_later (l3.trans l4))).trans c5).trans c6⟩, by dsimp only; omega⟩
      · repeat' (first | (simp (disch := omega) only [push_cast, ↓reduceIte, zA, zG, zB, zH, zI, zC, zJ, zK, zL, zD, zE, zF, zM, zN, zO, zP, zQ, reduceCtorEq]) | refine iX ?_ ?_ <;> intro _ | refine And.intro (by omega) ?_ | refine dq ?_)
        intro w3 l3
        repeat' (first | (simp (disch := omega) only [push_cast, ↓reduceIte, zA, zG, zB, zH, zI, zC, zJ, zK, zL, zD, zE, zF, zM, zN, zO, zP, zQ, reduceCtorEq]) | refine iX ?_ ?_ <;> intro _ | refine And.intro (by omega) ?_ | refine dq ?_)
        have e1 : (X.length : Int) + 1 + (i : Int) + 1 = (X.length : Int) + 1 + ((i : Int) + 1) := by omega
        exact ⟨rfl, i + 1, by simp (disch := omega) only [push_cast, ↓reduceIte, zA, zG, zB, zH, zI, zC, zJ, zK, zL, zD, zE, zF, zM, zN, zO, zP, zQ, reduceCtorEq, e1], ⟨by omega, fin w3 l3 (.inr ⟨T, p, rfl, by rw [hcmp]; exact decide_eq_false hlt2⟩)⟩, by dsimp only; omega⟩
  · have e1 : M.take (i + 1) = M := List.take_of_length_le (by omega)
    have e2 : M.drop (i + 1) = [] := List.drop_eq_nil_of_le (by omega)
    rw [e1] at tS
    rw [e2] at h1
    have hf : ∃ M', Srt glt M' ∧ Stb glt M M' ∧ Sg w1 B B' g c L (X ++ M' ++ Y) ∧ Chg w w1 [g] := ⟨S, sS, tS, by simpa using h1, c1⟩
    repeat' (first | (simp (disch := omega) only [push_cast, ↓reduceIte, zA, zG, zB, zH, zI, zC, zJ, zK, zL, zD, zE, zF, zM, zN, zO, zP, zQ, reduceCtorEq]) | refine iX ?_ ?_ <;> intro _ | refine And.intro (by omega) ?_ | refine dq ?_)
    exact hf
end Go.Proofs.Ytnofalhkapmcnaa
end
section
set_option linter.unusedSimpArgs false
namespace Go.Proofs.Ytnofalhkapmcnaa
open Go.Vc Go.Key Go.Stab
set_option maxRecDepth 100000
variable {kb : Nat} {od : Int}
def Mgg (B B' g c : Nat) (L X M Y : List (Ge kb od)) (w w' : World) : Prop := ∃ Z, Srt glt Z ∧ Stb glt M Z ∧ Sg w' B B' g c L (X ++ Z ++ Y) ∧ Chg w w' [g]
theorem gmergeA_c (B B' g c : Nat) (L X : List (Ge kb od)) (e : (Ge kb od)) (V Y : List (Ge kb od)) (a m b : Nat) (w : World) (h : Sg w B B' g c L (X ++ ([e] ++ V) ++ Y)) (hX : X.length = a) (hm : m = a + 1) (hV : V.length = b - m) (hmb : m < b) (sV : Srt glt V) :
    FnC Try.prog 143 #[.slice (some ⟨g, 0, none⟩) (X ++ ([e] ++ V) ++ Y).length c, .int .i64 (a : Int), .int .i64 (m : Int), .int .i64 (b : Int), (cmpG kb)] w fun r w' => Mgg B B' g c L X ([e] ++ V) Y w w' := by
  have hs := (glt_swo (kb := kb) (od := od))
  have hbig := h.big
  have hlen : (X ++ ([e] ++ V) ++ Y).length = b + Y.length := by simp; omega
  rw [hlen] at hbig
  have ha : (X ++ ([e] ++ V) ++ Y)[a]! = e := by rw [cur_UV _ _ _ (by omega) (by simp; omega), hX, Nat.sub_self]; rfl
  have gV : ∀ t, t < V.length → (X ++ ([e] ++ V) ++ Y)[m + t]! = V[t]! := fun t ht => by
    rw [cur_UV _ _ _ (by omega) (by simp; omega), hX]
    have : m + t - a = ([e] : List (Ge kb od)).length + t := by simp; omega
    rw [this, app_r ht]
  generalize hcur : X ++ ([e] ++ V) ++ Y = cur at *
  generalize hN : cur.length = N at *
  refine enter143 _ _ _ _ _ ?_
  unfold B143
  repeat' (first | (simp (disch := omega) only [push_cast, ↓reduceIte, zA, zG, zB, zH, zI, zC, zJ, zK, zL, zD, zE, zF, zM, zN, zO, zP, zQ, reduceCtorEq]) | refine iX ?_ ?_ <;> intro _ | refine And.intro (by omega) ?_ | refine dq ?_)
  refine vc_loop W143_0 (fun p : Nat × Nat => [(10, .int .i64 (p.1 : Int)), (11, .int .i64 (p.2 : Int))])
    (fun p w' => m ≤ p.1 ∧ p.1 ≤ p.2 ∧ p.2 ≤ b ∧ (p.1 = m ∨ glt cur[p.1 - 1]! cur[a]! = true) ∧ (p.2 = b ∨ glt cur[p.2]! cur[a]! = false) ∧ Later w w') (fun p => p.2 - p.1) (m, b) (by decide) ?_ ?_ ?_
  · simp (disch := omega) only [push_cast, ↓reduceIte, zA, zG, zB, zH, zI, zC, zJ, zK, zL, zD, zE, zF, zM, zN, zO, zP, zQ, reduceCtorEq]
  · exact ⟨by dsimp only; omega, by dsimp only; omega, by dsimp only; omega, .inl rfl, .inl rfl, Later.refl _⟩
  rintro ⟨i, j⟩ uu w1 ⟨q1, q2, q3, q4, q5, l1⟩
  dsimp only at q1 q2 q3 q4 q5
  have h1 := h.later l1
  by_cases hij : i < j
  · obtain ⟨r, hr⟩ : ∃ r : Nat, r = (i + j) / 2 := ⟨_, rfl⟩
    have e1 : ((i : Int) + (j : Int)) / 2 = (r : Int) := by omega
    have e2 : ((i : Int) + (j : Int)) / 2 ^ 1 = (r : Int) := by rw [Int.pow_succ]; simpa using e1
    have t1 : ((r : Int)).toNat = r := by omega
    have t2 : ((a : Int)).toNat = a := by omega
    have fr := h1.at (i := r) (by omega)
    have fa := h1.at (i := a) (by omega)
    have er := h1.elAt (i := r) (by omega)
    have ea := h1.elAt (i := a) (by omega)
    repeat' (first | (simp (disch := omega) only [push_cast, ↓reduceIte, zA, zG, zB, zH, zI, zC, zJ, zK, zL, zD, zE, zF, zM, zN, zO, zP, zQ, reduceCtorEq, e1, e2, t1, t2, fr, fa]) | refine iX ?_ ?_ <;> intro _ | refine And.intro (by omega) ?_ | refine dq ?_)
    refine QFn.of hb67 (v := .int .i64 (gcmp cur[r]! cur[a]!)) (fun w' hl => gcompare_c _ _ w' (er.is.later hl) (ea.is.later hl)) ?_
    have hcmp : glt cur[r]! cur[a]! = decide (gcmp cur[r]! cur[a]! < 0) := rfl
    by_cases hlt : gcmp cur[r]! cur[a]! < 0
    · repeat' (first | (simp (disch := omega) only [push_cast, ↓reduceIte, zA, zG, zB, zH, zI, zC, zJ, zK, zL, zD, zE, zF, zM, zN, zO, zP, zQ, reduceCtorEq]) | refine iX ?_ ?_ <;> intro _ | refine And.intro (by omega) ?_ | refine dq ?_)
      intro w2 l2
      repeat' (first | (simp (disch := omega) only [push_cast, ↓reduceIte, zA, zG, zB, zH, zI, zC, zJ, zK, zL, zD, zE, zF, zM, zN, zO, zP, zQ, reduceCtorEq]) | refine iX ?_ ?_ <;> intro _ | refine And.intro (by omega) ?_ | refine dq ?_)
      exact ⟨rfl, (r + 1, j), by simp (disch := omega) only [push_cast, ↓reduceIte, zA, zG, zB, zH, zI, zC, zJ, zK, zL, zD, zE, zF, zM, zN, zO, zP, zQ, reduceCtorEq], ⟨by dsimp only; omega, by dsimp only; omega, q3, .inr (by rw [show r + 1 - 1 = r by omega, hcmp]; exact decide_eq_true hlt), q5, l1.trans l2⟩, by dsimp only; omega⟩
    · repeat' (first | (simp (disch := omega) only [push_cast, ↓reduceIte, zA, zG, zB, zH, zI, zC, zJ, zK, zL, zD, zE, zF, zM, zN, zO, zP, zQ, reduceCtorEq]) | refine iX ?_ ?_ <;> intro _ | refine And.intro (by omega) ?_ | refine dq ?_)
      intro w2 l2
      repeat' (first | (simp (disch := omega) only [push_cast, ↓reduceIte, zA, zG, zB, zH, zI, zC, zJ, zK, zL, zD, zE, zF, zM, zN, zO, zP, zQ, reduceCtorEq]) | refine iX ?_ ?_ <;> intro _ | refine And.intro (by omega) ?_ | refine dq ?_)
      exact ⟨rfl, (i, r), by simp (disch := omega) only [push_cast, ↓reduceIte, zA, zG, zB, zH, zI, zC, zJ, zK, zL, zD, zE, zF, zM, zN, zO, zP, zQ, reduceCtorEq], ⟨q1, by dsimp only; omega, by dsimp only; omega, q4, .inr (by rw [hcmp]; exact decide_eq_false hlt), l1.trans l2⟩, by dsimp only; omega⟩
  · have hji : j = i := by omega
    subst hji
    obtain ⟨p, hp⟩ : ∃ p, p = j - m := ⟨_, rfl⟩
    have k1 : p = 0 ∨ glt V[p - 1]! e = true := by
      rcases q4 with h | h
      · left; omega
      · by_cases h0 : p = 0
        · exact .inl h0
        · right
          rw [← gV (p - 1) (by omega), ← ha]
          rwa [show m + (p - 1) = j - 1 by omega]
    have k2 : p = V.length ∨ glt V[p]! e = false := by
      rcases q5 with h | h
      · left; omega
      · by_cases h0 : p < V.length
        · right
          rw [← gV p h0, ← ha]
          rwa [show m + p = j by omega]
        · left; omega
    have hV1 := pref_lt hs sV (by omega) k1
    have hV2 := head_at (fun x => glt x e = false) (by omega) k2
    have hVV : V = V.take p ++ V.drop p := (List.take_append_drop _ _).symm
    have hp1 : (V.take p).length = p := by rw [List.length_take]; omega
    generalize V.take p = V1 at *
    generalize V.drop p = V2 at *
    repeat' (first | (simp (disch := omega) only [push_cast, ↓reduceIte, zA, zG, zB, zH, zI, zC, zJ, zK, zL, zD, zE, zF, zM, zN, zO, zP, zQ, reduceCtorEq]) | refine iX ?_ ?_ <;> intro _ | refine And.intro (by omega) ?_ | refine dq ?_)
    refine vc_loop W143_1 (fun s : Nat => [(13, .int .i64 ((a : Int) + (s : Int)))])
      (fun s w' => s ≤ p ∧ ∃ T1 T2, V1 = T1 ++ T2 ∧ T1.length = s ∧ Sg w' B B' g c L ((X ++ T1) ++ e :: (T2 ++ (V2 ++ Y))) ∧ Chg w w' [g]) (fun s => p - s) 0 (by decide) ?_ ?_ ?_
    · simp (disch := omega) only [push_cast, ↓reduceIte, zA, zG, zB, zH, zI, zC, zJ, zK, zL, zD, zE, zF, zM, zN, zO, zP, zQ, reduceCtorEq, Int.add_zero]
    · refine ⟨by omega, [], V1, rfl, rfl, ?_, Chg.of_later l1⟩
      rw [← hcur, hVV] at h1
      simpa using h1
    rintro s uu2 w2 ⟨hsp, T1, T2, hTT, hT1, h2, c2⟩
    have hXT : (X ++ T1).length = a + s := by rw [List.length_append]; omega
    have hN2 : ((X ++ T1) ++ e :: (T2 ++ (V2 ++ Y))).length = N := by
      rw [← hN, ← hcur, hVV, hTT]
      simp only [List.length_append, List.length_cons, List.length_nil]
      omega
    have hTl := congrArg List.length hTT
    rw [List.length_append] at hTl
    by_cases hlt : s < p
    · obtain ⟨x, T, rfl⟩ : ∃ x T, T2 = x :: T := by
        cases T2 with
        | nil => simp at hTl; omega
        | cons x T => exact ⟨x, T, rfl⟩
      have ge : ((X ++ T1) ++ e :: (x :: T ++ (V2 ++ Y)))[a + s]! = e := by rw [← hXT]; exact get_app _ _ _
      have hcur2 : (X ++ T1) ++ e :: (x :: T ++ (V2 ++ Y)) = ((X ++ T1) ++ [e]) ++ x :: (T ++ (V2 ++ Y)) := by simp
      have gx : ((X ++ T1) ++ e :: (x :: T ++ (V2 ++ Y)))[a + s + 1]! = x := by
        rw [hcur2, show a + s + 1 = ((X ++ T1) ++ [e]).length by rw [List.length_append, hXT]; rfl]; exact get_app _ _ _
      have hN2' : a + s + 1 < ((X ++ T1) ++ e :: (x :: T ++ (V2 ++ Y))).length := by
        rw [hcur2]; simp only [List.length_append, List.length_cons]; omega
      have t1 : ((a : Int) + (s : Int)).toNat = a + s := by omega
      have t2 : ((a : Int) + (s : Int) + 1).toNat = a + s + 1 := by omega
      have fe := h2.at (i := a + s) (by omega)
      have fx := h2.at (i := a + s + 1) (by omega)
      rw [ge] at fe
      rw [gx] at fx
      repeat' (first | (simp (disch := omega) only [push_cast, ↓reduceIte, zA, zG, zB, zH, zI, zC, zJ, zK, zL, zD, zE, zF, zM, zN, zO, zP, zQ, reduceCtorEq]) | refine iX ?_ ?_ <;> intro _ | refine And.intro (by omega) ?_ | fail)
      refine drawnS_k 15 ?_
      repeat' (first | (simp (disch := omega) only [push_cast, ↓reduceIte, zA, zG, zB, zH, zI, zC, zJ, zK, zL, zD, zE, zF, zM, zN, zO, zP, zQ, reduceCtorEq, t1, t2, fe, fx]) | refine iX ?_ ?_ <;> intro _ | refine And.intro (by omega) ?_ | fail)
      refine ⟨rfl, fun w3 l3 => ⟨by simp (disch := omega) only [push_cast, ↓reduceIte, zA, zG, zB, zH, zI, zC, zJ, zK, zL, zD, zE, zF, zM, zN, zO, zP, zQ, reduceCtorEq, implies_true, and_self], ?_⟩⟩
      have h3 := h2.later l3
      repeat' (first | (simp (disch := omega) only [push_cast, ↓reduceIte, zA, zG, zB, zH, zI, zC, zJ, zK, zL, zD, zE, zF, zM, zN, zO, zP, zQ, reduceCtorEq, t1, t2]) | refine iX ?_ ?_ <;> intro _ | refine And.intro (by omega) ?_ | fail)
      have mx := h3.mem (i := a + s + 1) (by omega)
      have me := h3.mem (i := a + s) (by omega)
      rw [gx] at mx
      rw [ge] at me
      refine h3.store (i := a + s) (by omega) mx fun w4 h4 c4 => ?_
      repeat' (first | (simp (disch := omega) only [push_cast, ↓reduceIte, zA, zG, zB, zH, zI, zC, zJ, zK, zL, zD, zE, zF, zM, zN, zO, zP, zQ, reduceCtorEq, t2]) | refine iX ?_ ?_ <;> intro _ | refine And.intro (by omega) ?_ | fail)
      refine h4.store (i := a + s + 1) (by simp only [List.length_set]; omega) me fun w5 h5 c5 => ?_
      have e6 : ((((X ++ T1) ++ e :: (x :: T ++ (V2 ++ Y))).set (a + s) x).set (a + s + 1) e) = (X ++ (T1 ++ [x])) ++ e :: (T ++ (V2 ++ Y)) := by
        have := sw_app (X ++ T1) [] (T ++ (V2 ++ Y)) e x
        unfold sw at this
        rw [show (X ++ T1).length + 1 + ([] : List (Ge kb od)).length = a + s + 1 by rw [hXT]; rfl, hXT] at this
        have hcc : (X ++ T1) ++ e :: ([] ++ x :: (T ++ (V2 ++ Y))) = (X ++ T1) ++ e :: (x :: T ++ (V2 ++ Y)) := by simp
        rw [hcc, ge, gx] at this
        rw [this]
        simp
      rw [e6] at h5
      have e7 : (a : Int) + (s : Int) + 1 = (a : Int) + ((s : Int) + 1) := by omega
      repeat' (first | (simp (disch := omega) only [push_cast, ↓reduceIte, zA, zG, zB, zH, zI, zC, zJ, zK, zL, zD, zE, zF, zM, zN, zO, zP, zQ, reduceCtorEq, e7]) | refine iX ?_ ?_ <;> intro _ | refine And.intro (by omega) ?_ | refine dq ?_)
      exact ⟨rfl, s + 1, by simp (disch := omega) only [push_cast, ↓reduceIte, zA, zG, zB, zH, zI, zC, zJ, zK, zL, zD, zE, zF, zM, zN, zO, zP, zQ, reduceCtorEq, e7], ⟨by omega, T1 ++ [x], T, by rw [hTT]; simp, by simp [hT1], h5, ((c2.trans (Chg.of_later l3)).trans c4).trans c5⟩, by dsimp only; omega⟩
    · have hT2 : T2 = [] := List.length_eq_zero_iff.1 (by omega)
      subst hT2
      rw [List.append_nil] at hTT
      subst hTT
      have hf : Mgg B B' g c L X ([e] ++ V) Y w w2 := by
        refine ⟨V1 ++ e :: V2, front_srt hs (by rw [← hVV]; exact sV) hV1 hV2, ?_, by simpa using h2, c2⟩
        rw [hVV]
        exact front_stb hs hV1
      repeat' (first | (simp (disch := omega) only [push_cast, ↓reduceIte, zA, zG, zB, zH, zI, zC, zJ, zK, zL, zD, zE, zF, zM, zN, zO, zP, zQ, reduceCtorEq]) | refine iX ?_ ?_ <;> intro _ | refine And.intro (by omega) ?_ | refine dq ?_)
      exact hf
theorem gmergeB_c (B B' g c : Nat) (L X U : List (Ge kb od)) (e : (Ge kb od)) (Y : List (Ge kb od)) (a m b : Nat) (w : World) (h : Sg w B B' g c L (X ++ (U ++ [e]) ++ Y)) (hX : X.length = a) (hU : U.length = m - a) (ham : a + 1 < m) (hb : b = m + 1) (sU : Srt glt U) :
    FnC Try.prog 143 #[.slice (some ⟨g, 0, none⟩) (X ++ (U ++ [e]) ++ Y).length c, .int .i64 (a : Int), .int .i64 (m : Int), .int .i64 (b : Int), (cmpG kb)] w fun r w' => Mgg B B' g c L X (U ++ [e]) Y w w' := by
  have hs := (glt_swo (kb := kb) (od := od))
  have hbig := h.big
  have hlen : (X ++ (U ++ [e]) ++ Y).length = b + Y.length := by simp; omega
  rw [hlen] at hbig
  have hme : (X ++ (U ++ [e]) ++ Y)[m]! = e := by
    rw [cur_UV _ _ _ (by omega) (by simp; omega), hX]
    have : m - a = U.length + 0 := by omega
    rw [this, app_r (by simp)]; rfl
  have gU : ∀ t, t < U.length → (X ++ (U ++ [e]) ++ Y)[a + t]! = U[t]! := fun t ht => by
    rw [cur_UV _ _ _ (by omega) (by simp; omega), hX, show a + t - a = t by omega, app_l ht]
  generalize hcur : X ++ (U ++ [e]) ++ Y = cur at *
  generalize hN : cur.length = N at *
  refine enter143 _ _ _ _ _ ?_
  unfold B143
  repeat' (first | (simp (disch := omega) only [push_cast, ↓reduceIte, zA, zG, zB, zH, zI, zC, zJ, zK, zL, zD, zE, zF, zM, zN, zO, zP, zQ, reduceCtorEq]) | refine iX ?_ ?_ <;> intro _ | refine And.intro (by omega) ?_ | refine dq ?_)
  refine vc_loop W143_2 (fun p : Nat × Nat => [(14, .int .i64 (p.1 : Int)), (15, .int .i64 (p.2 : Int))])
    (fun p w' => a ≤ p.1 ∧ p.1 ≤ p.2 ∧ p.2 ≤ m ∧ (p.1 = a ∨ glt cur[m]! cur[p.1 - 1]! = false) ∧ (p.2 = m ∨ glt cur[m]! cur[p.2]! = true) ∧ Later w w') (fun p => p.2 - p.1) (a, m) (by decide) ?_ ?_ ?_
  · simp (disch := omega) only [push_cast, ↓reduceIte, zA, zG, zB, zH, zI, zC, zJ, zK, zL, zD, zE, zF, zM, zN, zO, zP, zQ, reduceCtorEq]
  · exact ⟨by dsimp only; omega, by dsimp only; omega, by dsimp only; omega, .inl rfl, .inl rfl, Later.refl _⟩
  rintro ⟨i, j⟩ uu w1 ⟨q1, q2, q3, q4, q5, l1⟩
  dsimp only at q1 q2 q3 q4 q5
  have h1 := h.later l1
  by_cases hij : i < j
  · obtain ⟨r, hr⟩ : ∃ r : Nat, r = (i + j) / 2 := ⟨_, rfl⟩
    have e1 : ((i : Int) + (j : Int)) / 2 = (r : Int) := by omega
    have e2 : ((i : Int) + (j : Int)) / 2 ^ 1 = (r : Int) := by rw [Int.pow_succ]; simpa using e1
    have t1 : ((r : Int)).toNat = r := by omega
    have t2 : ((m : Int)).toNat = m := by omega
    have fr := h1.at (i := r) (by omega)
    have fa := h1.at (i := m) (by omega)
    have er := h1.elAt (i := r) (by omega)
    have ea := h1.elAt (i := m) (by omega)
    repeat' (first | (simp (disch := omega) only [push_cast, ↓reduceIte, zA, zG, zB, zH, zI, zC, zJ, zK, zL, zD, zE, zF, zM, zN, zO, zP, zQ, reduceCtorEq, e1, e2, t1, t2, fr, fa]) | refine iX ?_ ?_ <;> intro _ | refine And.intro (by omega) ?_ | refine dq ?_)
    refine QFn.of hb67 (v := .int .i64 (gcmp cur[m]! cur[r]!)) (fun w' hl => gcompare_c _ _ w' (ea.is.later hl) (er.is.later hl)) ?_
    have hcmp : glt cur[m]! cur[r]! = decide (gcmp cur[m]! cur[r]! < 0) := rfl
    by_cases hlt : gcmp cur[m]! cur[r]! < 0
    · repeat' (first | (simp (disch := omega) only [push_cast, ↓reduceIte, zA, zG, zB, zH, zI, zC, zJ, zK, zL, zD, zE, zF, zM, zN, zO, zP, zQ, reduceCtorEq]) | refine iX ?_ ?_ <;> intro _ | refine And.intro (by omega) ?_ | refine dq ?_)
      intro w2 l2
      repeat' (first | (simp (disch := omega) only [push_cast, ↓reduceIte, zA, zG, zB, zH, zI, zC, zJ, zK, zL, zD, zE, zF, zM, zN, zO, zP, zQ, reduceCtorEq]) | refine iX ?_ ?_ <;> intro _ | refine And.intro (by omega) ?_ | refine dq ?_)
      exact ⟨rfl, (i, r), by simp (disch := omega) only [push_cast, ↓reduceIte, zA, zG, zB, zH, zI, zC, zJ, zK, zL, zD, zE, zF, zM, zN, zO, zP, zQ, reduceCtorEq], ⟨q1, by dsimp only; omega, by dsimp only; omega, q4, .inr (by rw [hcmp]; exact decide_eq_true hlt), l1.trans l2⟩, by dsimp only; omega⟩
    · repeat' (first | (simp (disch := omega) only [push_cast, ↓reduceIte, zA, zG, zB, zH, zI, zC, zJ, zK, zL, zD, zE, zF, zM, zN, zO, zP, zQ, reduceCtorEq]) | refine iX ?_ ?_ <;> intro _ | refine And.intro (by omega) ?_ | refine dq ?_)
      intro w2 l2
      repeat' (first | (simp (disch := omega) only [push_cast, ↓reduceIte, zA, zG, zB, zH, zI, zC, zJ, zK, zL, zD, zE, zF, zM, zN, zO, zP, zQ, reduceCtorEq]) | refine iX ?_ ?_ <;> intro _ | refine And.intro (by omega) ?_ | refine dq ?_)
      exact ⟨rfl, (r + 1, j), by simp (disch := omega) only [push_cast, ↓reduceIte, zA, zG, zB, zH, zI, zC, zJ, zK, zL, zD, zE, zF, zM, zN, zO, zP, zQ, reduceCtorEq], ⟨by dsimp only; omega, by dsimp only; omega, q3, .inr (by rw [show r + 1 - 1 = r by omega, hcmp]; exact decide_eq_false hlt), q5, l1.trans l2⟩, by dsimp only; omega⟩
  · have hji : j = i := by omega
    subst hji
    obtain ⟨p, hp⟩ : ∃ p, p = j - a := ⟨_, rfl⟩
    have k1 : p = 0 ∨ glt e U[p - 1]! = false := by
      rcases q4 with h | h
      · left; omega
      · by_cases h0 : p = 0
        · exact .inl h0
        · right
          rw [← gU (p - 1) (by omega), ← hme]
          rwa [show a + (p - 1) = j - 1 by omega]
    have k2 : p = U.length ∨ glt e U[p]! = true := by
      rcases q5 with h | h
      · left; omega
      · by_cases h0 : p < U.length
        · right
          rw [← gU p h0, ← hme]
          rwa [show a + p = j by omega]
        · left; omega
    have hS1 := last_at (fun x => glt e x = false) (by omega) k1
    have hS2 := suf_lt hs sU k2
    have hUU : U = U.take p ++ U.drop p := (List.take_append_drop _ _).symm
    have hp1 : (U.take p).length = p := by rw [List.length_take]; omega
    have hp2 : (U.drop p).length = m - j := by rw [List.length_drop]; omega
    generalize U.take p = S1 at *
    generalize U.drop p = S2 at *
    repeat' (first | (simp (disch := omega) only [push_cast, ↓reduceIte, zA, zG, zB, zH, zI, zC, zJ, zK, zL, zD, zE, zF, zM, zN, zO, zP, zQ, reduceCtorEq]) | refine iX ?_ ?_ <;> intro _ | refine And.intro (by omega) ?_ | refine dq ?_)
    refine vc_loop W143_3 (fun s : Nat => [(17, .int .i64 ((j : Int) + (s : Int)))])
      (fun s w' => ∃ T1 T2, S2 = T1 ++ T2 ∧ T1.length = s ∧ Sg w' B B' g c L ((X ++ (S1 ++ T1)) ++ e :: (T2 ++ Y)) ∧ Chg w w' [g]) (fun s => s) (m - j) (by decide) ?_ ?_ ?_
    · have e0 : (j : Int) + ((m : Int) - (j : Int)) = (m : Int) := by omega
      simp (disch := omega) only [push_cast, ↓reduceIte, zA, zG, zB, zH, zI, zC, zJ, zK, zL, zD, zE, zF, zM, zN, zO, zP, zQ, reduceCtorEq, e0]
    · refine ⟨S2, [], by simp, hp2, ?_, Chg.of_later l1⟩
      rw [← hcur, hUU] at h1
      simpa using h1
    rintro s uu2 w2 ⟨T1, T2, hTT, hT1, h2, c2⟩
    have hXT : (X ++ (S1 ++ T1)).length = j + s := by rw [List.length_append, List.length_append]; omega
    have hN2 : ((X ++ (S1 ++ T1)) ++ e :: (T2 ++ Y)).length = N := by
      rw [← hN, ← hcur, hUU, hTT]
      simp only [List.length_append, List.length_cons, List.length_nil]
      omega
    have hTl := congrArg List.length hTT
    rw [List.length_append] at hTl
    by_cases hlt : 0 < s
    · obtain ⟨T, x, rfl⟩ : ∃ T x, T1 = T ++ [x] := ⟨T1.dropLast, T1.getLast (by intro h; rw [h] at hT1; simp at hT1; omega), (List.dropLast_concat_getLast _).symm⟩
      have hcur2 : (X ++ (S1 ++ (T ++ [x]))) ++ e :: (T2 ++ Y) = (X ++ (S1 ++ T)) ++ x :: (e :: (T2 ++ Y)) := by simp
      have hXT' : (X ++ (S1 ++ T)).length = j + s - 1 := by simp only [List.length_append, List.length_cons, List.length_nil] at hXT ⊢; omega
      have ge : ((X ++ (S1 ++ (T ++ [x]))) ++ e :: (T2 ++ Y))[j + s]! = e := by rw [← hXT]; exact get_app _ _ _
      have gx : ((X ++ (S1 ++ (T ++ [x]))) ++ e :: (T2 ++ Y))[j + s - 1]! = x := by rw [hcur2, ← hXT']; exact get_app _ _ _
      have hN2' : j + s < ((X ++ (S1 ++ (T ++ [x]))) ++ e :: (T2 ++ Y)).length := by
        rw [List.length_append, hXT]; simp
      have t1 : ((j : Int) + (s : Int)).toNat = j + s := by omega
      have t2 : ((j : Int) + (s : Int) - 1).toNat = j + s - 1 := by omega
      have fe := h2.at (i := j + s) (by omega)
      have fx := h2.at (i := j + s - 1) (by omega)
      rw [ge] at fe
      rw [gx] at fx
      repeat' (first | (simp (disch := omega) only [push_cast, ↓reduceIte, zA, zG, zB, zH, zI, zC, zJ, zK, zL, zD, zE, zF, zM, zN, zO, zP, zQ, reduceCtorEq]) | refine iX ?_ ?_ <;> intro _ | refine And.intro (by omega) ?_ | fail)
      refine drawnS_k 15 ?_
      repeat' (first | (simp (disch := omega) only [push_cast, ↓reduceIte, zA, zG, zB, zH, zI, zC, zJ, zK, zL, zD, zE, zF, zM, zN, zO, zP, zQ, reduceCtorEq, t1, t2, fe, fx]) | refine iX ?_ ?_ <;> intro _ | refine And.intro (by omega) ?_ | fail)
      refine ⟨rfl, fun w3 l3 => ⟨by simp (disch := omega) only [push_cast, ↓reduceIte, zA, zG, zB, zH, zI, zC, zJ, zK, zL, zD, zE, zF, zM, zN, zO, zP, zQ, reduceCtorEq, implies_true, and_self], ?_⟩⟩
      have h3 := h2.later l3
      repeat' (first | (simp (disch := omega) only [push_cast, ↓reduceIte, zA, zG, zB, zH, zI, zC, zJ, zK, zL, zD, zE, zF, zM, zN, zO, zP, zQ, reduceCtorEq, t1, t2]) | refine iX ?_ ?_ <;> intro _ | refine And.intro (by omega) ?_ | fail)
      have mx := h3.mem (i := j + s - 1) (by omega)
      have me := h3.mem (i := j + s) (by omega)
      rw [gx] at mx
      rw [ge] at me
      refine h3.store (i := j + s) (by omega) mx fun w4 h4 c4 => ?_
      repeat' (first | (simp (disch := omega) only [push_cast, ↓reduceIte, zA, zG, zB, zH, zI, zC, zJ, zK, zL, zD, zE, zF, zM, zN, zO, zP, zQ, reduceCtorEq, t2]) | refine iX ?_ ?_ <;> intro _ | refine And.intro (by omega) ?_ | fail)
      refine h4.store (i := j + s - 1) (by simp only [List.length_set]; omega) me fun w5 h5 c5 => ?_
      have e6 : ((((X ++ (S1 ++ (T ++ [x]))) ++ e :: (T2 ++ Y)).set (j + s) x).set (j + s - 1) e) = (X ++ (S1 ++ T)) ++ e :: ((x :: T2) ++ Y) := by
        have := gsw_near (X ++ (S1 ++ T)) (T2 ++ Y) x e
        unfold sw at this
        rw [← hcur2, show (X ++ (S1 ++ T)).length + 1 = j + s by rw [hXT']; omega, hXT', ge, gx] at this
        rw [this]
        simp
      rw [e6] at h5
      have e7 : (j : Int) + (s : Int) - 1 = (j : Int) + ((s - 1 : Nat) : Int) := by omega
      repeat' (first | (simp (disch := omega) only [push_cast, ↓reduceIte, zA, zG, zB, zH, zI, zC, zJ, zK, zL, zD, zE, zF, zM, zN, zO, zP, zQ, reduceCtorEq, e7]) | refine iX ?_ ?_ <;> intro _ | refine And.intro (by omega) ?_ | refine dq ?_)
      exact ⟨rfl, s - 1, by simp (disch := omega) only [push_cast, ↓reduceIte, zA, zG, zB, zH, zI, zC, zJ, zK, zL, zD, zE, zF, zM, zN, zO, zP, zQ, reduceCtorEq, e7], ⟨T, x :: T2, by rw [hTT]; simp, by simp at hT1; omega, h5, ((c2.trans (Chg.of_later l3)).trans c4).trans c5⟩, by dsimp only; omega⟩
    · have hT2 : T1 = [] := List.length_eq_zero_iff.1 (by omega)
      subst hT2
      rw [List.nil_append] at hTT
      subst hTT
      have hf : Mgg B B' g c L X (U ++ [e]) Y w w2 := by
        refine ⟨S1 ++ e :: S2, ins_srt hs (by rw [← hUU]; exact sU) hS1 hS2, ?_, by simpa using h2, c2⟩
        rw [hUU]
        exact ins_stb hs hS2
      repeat' (first | (simp (disch := omega) only [push_cast, ↓reduceIte, zA, zG, zB, zH, zI, zC, zJ, zK, zL, zD, zE, zF, zM, zN, zO, zP, zQ, reduceCtorEq]) | refine iX ?_ ?_ <;> intro _ | refine And.intro (by omega) ?_ | refine dq ?_)
      exact hf
end Go.Proofs.Ytnofalhkapmcnaa
end
section
set_option linter.unusedSimpArgs false
namespace Go.Proofs.Ytnofalhkapmcnaa
open Go.Vc Go.Key Go.Stab
set_option maxRecDepth 100000
variable {kb : Nat} {od : Int}
abbrev gsymF : FuncId := 143
def GSymOk (kb : Nat) (od : Int) (D : Nat) : Prop := ∀ (B B' g c : Nat) (L X U V Y : List (Ge kb od)) (a m b : Nat) (w : World), b - a = D → Sg w B B' g c L (X ++ (U ++ V) ++ Y) → X.length = a → U.length = m - a → V.length = b - m → a < m → m < b → Srt glt U → Srt glt V →
    FnC Try.prog 143 #[.slice (some ⟨g, 0, none⟩) (X ++ (U ++ V) ++ Y).length c, .int .i64 (a : Int), .int .i64 (m : Int), .int .i64 (b : Int), (cmpG kb)] w fun r w' => Mgg B B' g c L X (U ++ V) Y w w'
set_option maxHeartbeats 4000000 in
theorem gsymMergeLo_c (D : Nat) (ih : ∀ d, d < D → GSymOk kb od d) (B B' g c : Nat) (L X U V Y : List (Ge kb od)) (a m b : Nat) (w : World) (hD : b - a = D) (h : Sg w B B' g c L (X ++ (U ++ V) ++ Y)) (hX : X.length = a) (hU : U.length = m - a) (hV : V.length = b - m) (ham : a < m) (hmb : m < b) (sU : Srt glt U) (sV : Srt glt V) (hmm0 : (a + b) / 2 < m) (hA : ¬ m = a + 1) (hB : ¬ b = m + 1) :
    FnC Try.prog 143 #[.slice (some ⟨g, 0, none⟩) (X ++ (U ++ V) ++ Y).length c, .int .i64 (a : Int), .int .i64 (m : Int), .int .i64 (b : Int), (cmpG kb)] w fun r w' => Mgg B B' g c L X (U ++ V) Y w w' := by
  have hs := (glt_swo (kb := kb) (od := od))
  have hbig := h.big
  have hlen : (X ++ (U ++ V) ++ Y).length = b + Y.length := by simp only [List.length_append]; omega
  rw [hlen] at hbig
  have gM : ∀ i, a ≤ i → i < b → (X ++ (U ++ V) ++ Y)[i]! = (U ++ V)[i - a]! := fun i h1 h2 => by
    rw [cur_UV _ _ _ (by omega) (by simp only [List.length_append]; omega), hX]
  generalize hcur : X ++ (U ++ V) ++ Y = cur at *
  generalize hN : cur.length = N at *
  obtain ⟨mid, hmid⟩ : ∃ mid, mid = (a + b) / 2 := ⟨_, rfl⟩
  obtain ⟨p1, p2, p3, p4, p5, p6⟩ := sym_in ham hmb
  obtain ⟨S0, hS0⟩ : ∃ S0, S0 = s0 a m b := ⟨_, rfl⟩
  obtain ⟨R0, hR0⟩ : ∃ R0, R0 = r0 a m b := ⟨_, rfl⟩
  have hS0' : S0 = if mid < m then mid + m - b else a := by rw [hS0, hmid]; rfl
  have hR0' : R0 = if mid < m then mid else m := by rw [hR0, hmid]; rfl
  have p2' : S0 ≤ R0 := by rw [hS0, hR0]; exact p2
  have p1' : a ≤ S0 := by rw [hS0]; exact p1
  have p3' : R0 ≤ m := by rw [hR0]; exact p3
  have p4' : R0 ≤ mid := by rw [hR0, hmid]; exact p4
  have p5' : ∀ c, S0 ≤ c → c < R0 → m ≤ mid + m - 1 - c ∧ mid + m - 1 - c < b := by rw [hS0, hR0, hmid]; exact p5
  have p6' : mid + m - S0 ≤ b := by rw [hS0, hmid]; exact p6
  clear p1 p2 p3 p4 p5 p6
  have e1 : ((a : Int) + (b : Int)) / 2 = (mid : Int) := by omega
  have e2 : ((a : Int) + (b : Int)) / 2 ^ 1 = (mid : Int) := by rw [Int.pow_succ]; simpa using e1
  refine enter143 _ _ _ _ _ ?_
  unfold B143
  have hmm : mid < m := by omega
  · rw [if_pos hmm] at hS0' hR0'
    have e3 : (mid : Int) + (m : Int) - (b : Int) = (S0 : Int) := by omega
    have e4 : (R0 : Int) = (mid : Int) := by omega
    repeat' (first | (simp (disch := omega) only [push_cast, ↓reduceIte, zA, zG, zB, zH, zI, zC, zJ, zK, zL, zD, zE, zF, zM, zN, zO, zP, zQ, reduceCtorEq, e1, e2]) | refine iX ?_ ?_ <;> intro _ | refine And.intro (by omega) ?_ | refine dq ?_)
    refine vc_loop W143_4 (fun p : Nat × Nat => [(20, .int .i64 (p.1 : Int)), (21, .int .i64 (p.2 : Int))])
      (fun p w' => S0 ≤ p.1 ∧ p.1 ≤ p.2 ∧ p.2 ≤ R0 ∧ (p.1 = S0 ∨ glt cur[mid + m - p.1]! cur[p.1 - 1]! = false) ∧ (p.2 = R0 ∨ glt cur[mid + m - 1 - p.2]! cur[p.2]! = true) ∧ Later w w') (fun p => p.2 - p.1) (S0, R0) (by decide) ?_ ?_ ?_
    · simp (disch := omega) only [push_cast, ↓reduceIte, zA, zG, zB, zH, zI, zC, zJ, zK, zL, zD, zE, zF, zM, zN, zO, zP, zQ, reduceCtorEq, e3, e4]
    · exact ⟨Nat.le_refl _, p2', Nat.le_refl _, .inl rfl, .inl rfl, Later.refl _⟩
    rintro ⟨s, t⟩ uu w1 ⟨q1, q2, q3, q4, q5, l1⟩
    dsimp only at q1 q2 q3 q4 q5
    have h1 := h.later l1
    by_cases hst : s < t
    · obtain ⟨r, hr⟩ : ∃ r : Nat, r = (s + t) / 2 := ⟨_, rfl⟩
      have f1 : ((s : Int) + (t : Int)) / 2 = (r : Int) := by omega
      have f2 : ((s : Int) + (t : Int)) / 2 ^ 1 = (r : Int) := by rw [Int.pow_succ]; simpa using f1
      obtain ⟨b1, b2⟩ := p5' r (by omega) (by omega)
      have t1 : ((r : Int)).toNat = r := by omega
      have t2 : ((mid : Int) + (m : Int) - 1 - (r : Int)).toNat = mid + m - 1 - r := by omega
      have fr := h1.at (i := r) (by omega)
      have fa := h1.at (i := mid + m - 1 - r) (by omega)
      have er := h1.elAt (i := r) (by omega)
      have ea := h1.elAt (i := mid + m - 1 - r) (by omega)
      repeat' (first | (simp (disch := omega) only [push_cast, ↓reduceIte, zA, zG, zB, zH, zI, zC, zJ, zK, zL, zD, zE, zF, zM, zN, zO, zP, zQ, reduceCtorEq, f1, f2, t1, t2, fr, fa]) | refine iX ?_ ?_ <;> intro _ | refine And.intro (by omega) ?_ | refine dq ?_)
      refine QFn.of hb67 (v := .int .i64 (gcmp cur[mid + m - 1 - r]! cur[r]!)) (fun w' hl => gcompare_c _ _ w' (ea.is.later hl) (er.is.later hl)) ?_
      have hcmp : glt cur[mid + m - 1 - r]! cur[r]! = decide (gcmp cur[mid + m - 1 - r]! cur[r]! < 0) := rfl
      by_cases hlt : gcmp cur[mid + m - 1 - r]! cur[r]! < 0
      · repeat' (first | (simp (disch := omega) only [push_cast, ↓reduceIte, zA, zG, zB, zH, zI, zC, zJ, zK, zL, zD, zE, zF, zM, zN, zO, zP, zQ, reduceCtorEq]) | refine iX ?_ ?_ <;> intro _ | refine And.intro (by omega) ?_ | refine dq ?_)
        intro w2 l2
        repeat' (first | (simp (disch := omega) only [push_cast, ↓reduceIte, zA, zG, zB, zH, zI, zC, zJ, zK, zL, zD, zE, zF, zM, zN, zO, zP, zQ, reduceCtorEq]) | refine iX ?_ ?_ <;> intro _ | refine And.intro (by omega) ?_ | refine dq ?_)
        exact ⟨rfl, (s, r), by simp (disch := omega) only [push_cast, ↓reduceIte, zA, zG, zB, zH, zI, zC, zJ, zK, zL, zD, zE, zF, zM, zN, zO, zP, zQ, reduceCtorEq], ⟨q1, by dsimp only; omega, by dsimp only; omega, q4, .inr (by rw [hcmp]; exact decide_eq_true hlt), l1.trans l2⟩, by dsimp only; omega⟩
      · repeat' (first | (simp (disch := omega) only [push_cast, ↓reduceIte, zA, zG, zB, zH, zI, zC, zJ, zK, zL, zD, zE, zF, zM, zN, zO, zP, zQ, reduceCtorEq]) | refine iX ?_ ?_ <;> intro _ | refine And.intro (by omega) ?_ | refine dq ?_)
        intro w2 l2
        repeat' (first | (simp (disch := omega) only [push_cast, ↓reduceIte, zA, zG, zB, zH, zI, zC, zJ, zK, zL, zD, zE, zF, zM, zN, zO, zP, zQ, reduceCtorEq]) | refine iX ?_ ?_ <;> intro _ | refine And.intro (by omega) ?_ | refine dq ?_)
        exact ⟨rfl, (r + 1, t), by simp (disch := omega) only [push_cast, ↓reduceIte, zA, zG, zB, zH, zI, zC, zJ, zK, zL, zD, zE, zF, zM, zN, zO, zP, zQ, reduceCtorEq], ⟨by dsimp only; omega, by dsimp only; omega, q3, .inr (by rw [show r + 1 - 1 = r by omega, show mid + m - (r + 1) = mid + m - 1 - r by omega, hcmp]; exact decide_eq_false hlt), q5, l1.trans l2⟩, by dsimp only; omega⟩
    · have hts : t = s := by omega
      subst hts
      have k1 : t = S0 ∨ glt (U ++ V)[mid + m - t - a]! (U ++ V)[t - 1 - a]! = false := by
        rcases q4 with h | h
        · exact .inl h
        · by_cases h0 : t = S0
          · exact .inl h0
          · obtain ⟨b1, b2⟩ := p5' (t - 1) (by omega) (by omega)
            right
            rw [← gM (mid + m - t) (by omega) (by omega), ← gM (t - 1) (by omega) (by omega)]
            exact h
      have k2 : t = R0 ∨ glt (U ++ V)[mid + m - 1 - t - a]! (U ++ V)[t - a]! = true := by
        rcases q5 with h | h
        · exact .inl h
        · by_cases h0 : t = R0
          · exact .inl h0
          · obtain ⟨b1, b2⟩ := p5' t (by omega) (by omega)
            right
            rw [← gM (mid + m - 1 - t) (by omega) (by omega), ← gM t (by omega) (by omega)]
            exact h
      obtain ⟨huv, hAB⟩ := sym_facts hs hU hV ham hmb sU sV (by rw [← hS0]; exact q1) (by rw [← hR0]; exact q3) (by rw [← hS0, ← hmid]; exact k1) (by rw [← hR0, ← hmid]; exact k2) (fun h => .inr (sym_r h))
      rw [← hmid] at huv hAB
      obtain ⟨E, hE⟩ : ∃ E, E = mid + m - t := ⟨_, rfl⟩
      have eE : (mid : Int) + (m : Int) - (t : Int) = (E : Int) := by omega
      have hEb : E ≤ b := by omega
      rw [← hE] at huv hAB
      have hUU : U = U.take (t - a) ++ U.drop (t - a) := (List.take_append_drop _ _).symm
      have hVV : V = V.take (E - m) ++ V.drop (E - m) := (List.take_append_drop _ _).symm
      have n1 : (U.take (t - a)).length = t - a := by rw [List.length_take]; omega
      have n2 : (U.drop (t - a)).length = m - t := by rw [List.length_drop]; omega
      have n3 : (V.take (E - m)).length = E - m := by rw [List.length_take]; omega
      have n4 : (V.drop (E - m)).length = b - E := by rw [List.length_drop]; omega
      generalize U.take (t - a) = A0 at *
      generalize U.drop (t - a) = u at *
      generalize V.take (E - m) = v at *
      generalize V.drop (E - m) = B0 at *
      rw [hUU] at sU
      rw [hVV] at sV
      have hcl : X ++ (A0 ++ u ++ (v ++ B0)) ++ Y = cur := by rw [← hUU, ← hVV]; exact hcur
      obtain ⟨sA, su, _⟩ := Srt.append.1 sU
      obtain ⟨sv, sB, _⟩ := Srt.append.1 sV
      have fin : ∀ w' Lz Rz, Srt glt Lz → Srt glt Rz → Stb glt (A0 ++ v) Lz → Stb glt (u ++ B0) Rz → Sg w' B B' g c L (X ++ Lz ++ (Rz ++ Y)) → Chg w w' [g] → Mgg B B' g c L X (U ++ V) Y w w' := by
        intro w' Lz Rz z1 z2 z3 z4 z5 z6
        obtain ⟨y1, y2⟩ := halves hs sU sV huv hAB z3 z4 z1 z2
        refine ⟨Lz ++ Rz, y1, ?_, by simpa using z5, z6⟩
        rw [hUU, hVV]; exact y2
      have rotH : 0 < u.length → 0 < v.length → FnC Try.prog 160 #[.slice (some ⟨g, 0, none⟩) N c, .int .i64 (t : Int), .int .i64 (m : Int), .int .i64 (E : Int), (cmpG kb)] w1 fun r w' => Sg w' B B' g c L (X ++ A0 ++ v ++ u ++ (B0 ++ Y)) ∧ Chg w1 w' [g] := by
        intro hu hv
        have hin : Sg w1 B B' g c L (X ++ A0 ++ u ++ v ++ (B0 ++ Y)) := by
          have := h1
          rw [← hcl] at this
          simpa using this
        have := grotate_c B B' g c L (X ++ A0) u v (B0 ++ Y) w1 hin hu hv
        have a0 : (X ++ A0 ++ u ++ v ++ (B0 ++ Y)).length = N := by rw [← hN, ← hcl]; simp only [List.length_append]; omega
        have a1 : (X ++ A0).length = t := by rw [List.length_append]; omega
        have a2 : (X ++ A0).length + u.length = m := by omega
        have a3 : (X ++ A0).length + u.length + v.length = E := by omega
        rw [a0, a3, a2, a1] at this
        exact this
      have same : u = [] ∨ v = [] → ∀ w', Sg w' B B' g c L cur → Sg w' B B' g c L (X ++ A0 ++ v ++ u ++ (B0 ++ Y)) := by
        intro huv w' hw
        rw [← hcl] at hw
        rcases huv with rfl | rfl
        · simpa using hw
        · simpa using hw
      have mL : ∀ w2, Sg w2 B B' g c L (X ++ A0 ++ v ++ u ++ (B0 ++ Y)) → a < t → t < mid → FnC Try.prog gsymF #[.slice (some ⟨g, 0, none⟩) N c, .int .i64 (a : Int), .int .i64 (t : Int), .int .i64 (mid : Int), (cmpG kb)] w2 fun r w' => Mgg B B' g c L X (A0 ++ v) (u ++ (B0 ++ Y)) w2 w' := by
        intro w2 h2 z1 z2
        have := ih (mid - a) (by omega) B B' g c L X A0 v (u ++ (B0 ++ Y)) a t mid w2 rfl (by simpa using h2) hX n1 (by omega) z1 z2 sA sv
        have a0 : (X ++ (A0 ++ v) ++ (u ++ (B0 ++ Y))).length = N := by rw [← hN, ← hcl]; simp only [List.length_append]; omega
        rw [a0] at this
        exact this
      have noL : ¬ (a < t ∧ t < mid) → ∃ Lz, Srt glt Lz ∧ Stb glt (A0 ++ v) Lz ∧ Lz = A0 ++ v := by
        intro hno
        by_cases ht : a < t
        · have : v = [] := List.length_eq_zero_iff.1 (by omega)
          subst this
          exact ⟨A0 ++ [], by simpa using sA, Stb.refl _, rfl⟩
        · have : A0 = [] := List.length_eq_zero_iff.1 (by omega)
          subst this
          exact ⟨[] ++ v, by simpa using sv, Stb.refl _, rfl⟩
      have mR : ∀ w3 Lz, Stb glt (A0 ++ v) Lz → Sg w3 B B' g c L (X ++ Lz ++ (u ++ (B0 ++ Y))) → mid < E → E < b → FnC Try.prog gsymF #[.slice (some ⟨g, 0, none⟩) N c, .int .i64 (mid : Int), .int .i64 (E : Int), .int .i64 (b : Int), (cmpG kb)] w3 fun r w' => Mgg B B' g c L (X ++ Lz) (u ++ B0) Y w3 w' := by
        intro w3 Lz hz h3 z1 z2
        have hzl := hz.1
        rw [List.length_append] at hzl
        have hXL : (X ++ Lz).length = mid := by rw [List.length_append]; omega
        have := ih (b - mid) (by omega) B B' g c L (X ++ Lz) u B0 Y mid E b w3 rfl (by simpa using h3) hXL (by omega) n4 z1 z2 su sB
        have a0 : (X ++ Lz ++ (u ++ B0) ++ Y).length = N := by rw [← hN, ← hcl]; simp only [List.length_append]; omega
        rw [a0] at this
        exact this
      have noR : ¬ (mid < E ∧ E < b) → Srt glt (u ++ B0) := by
        intro hno
        by_cases ht : mid < E
        · have : B0 = [] := List.length_eq_zero_iff.1 (by omega)
          subst this
          simpa using su
        · have : u = [] := List.length_eq_zero_iff.1 (by omega)
          subst this
          simpa using sB
      have c01 : Chg w w1 [g] := Chg.of_later l1
      have m2 := n2
      have m3 : v.length = mid - t := by omega
      have nu : t ≤ m := by omega
      have nv : t ≤ mid := by omega
      have namid : a < mid := by omega
      clear huv hAB hUU hVV n1 n3 n4 sU sV sA su sv sB k1 k2 q4 q5 gM hs hcl ih p1' p2' p3' p4' p5' p6' hS0 hR0 hS0' hR0' e1 e2 e3 e4 hmid hst q1 q2 q3 hA hB hX hU hV hlen h hD
      have pp : t < m := by omega
      by_cases qq : t < mid
      · repeat' (first | (simp (disch := omega) only [push_cast, ↓reduceIte, zA, zG, zB, zH, zI, zC, zJ, zK, zL, zD, zE, zF, zM, zN, zO, zP, zQ, reduceCtorEq, eE]) | refine iX ?_ ?_ <;> intro _ | refine And.intro (by omega) ?_ | refine dq ?_)
        refine (rotH (by omega) (by omega)).mono ?_
        rintro _ w2 ⟨h2, c2⟩
        have c02 := c01.trans c2
        clear rotH same
        by_cases ll : a < t
        · repeat' (first | (simp (disch := omega) only [push_cast, ↓reduceIte, zA, zG, zB, zH, zI, zC, zJ, zK, zL, zD, zE, zF, zM, zN, zO, zP, zQ, reduceCtorEq]) | refine iX ?_ ?_ <;> intro _ | refine And.intro (by omega) ?_ | refine dq ?_)
          refine (mL w2 h2 ll (by omega)).mono ?_
          rintro _ w3 ⟨Lz, z1, z2, h3, c3⟩
          have c03 := c02.trans c3
          by_cases rr : E < b
          · repeat' (first | (simp (disch := omega) only [push_cast, ↓reduceIte, zA, zG, zB, zH, zI, zC, zJ, zK, zL, zD, zE, zF, zM, zN, zO, zP, zQ, reduceCtorEq]) | refine iX ?_ ?_ <;> intro _ | refine And.intro (by omega) ?_ | refine dq ?_)
            refine (mR w3 Lz z2 h3 (by omega) rr).mono ?_
            rintro _ w4 ⟨Rz, y1, y2, y3, y4⟩
            have hf := fin w4 Lz Rz z1 y1 z2 y2 (by simpa using y3) (c03.trans y4)
            clear mR fin
            repeat' (first | (simp (disch := omega) only [push_cast, ↓reduceIte, zA, zG, zB, zH, zI, zC, zJ, zK, zL, zD, zE, zF, zM, zN, zO, zP, zQ, reduceCtorEq]) | refine iX ?_ ?_ <;> intro _ | refine And.intro (by omega) ?_ | refine dq ?_)
            exact hf
          · have hf := fin w3 Lz (u ++ B0) z1 (noR (by omega)) z2 (Stb.refl _) (by simpa using h3) c03
            clear mR fin
            repeat' (first | (simp (disch := omega) only [push_cast, ↓reduceIte, zA, zG, zB, zH, zI, zC, zJ, zK, zL, zD, zE, zF, zM, zN, zO, zP, zQ, reduceCtorEq]) | refine iX ?_ ?_ <;> intro _ | refine And.intro (by omega) ?_ | refine dq ?_)
            exact hf
        · obtain ⟨Lz, z1, z2, hLz⟩ := noL (by omega)
          have h3 : Sg w2 B B' g c L (X ++ Lz ++ (u ++ (B0 ++ Y))) := by rw [hLz]; simpa using h2
          have c03 := c02
          by_cases rr : E < b
          · repeat' (first | (simp (disch := omega) only [push_cast, ↓reduceIte, zA, zG, zB, zH, zI, zC, zJ, zK, zL, zD, zE, zF, zM, zN, zO, zP, zQ, reduceCtorEq]) | refine iX ?_ ?_ <;> intro _ | refine And.intro (by omega) ?_ | refine dq ?_)
            refine (mR w2 Lz z2 h3 (by omega) rr).mono ?_
            rintro _ w4 ⟨Rz, y1, y2, y3, y4⟩
            have hf := fin w4 Lz Rz z1 y1 z2 y2 (by simpa using y3) (c03.trans y4)
            clear mR fin
            repeat' (first | (simp (disch := omega) only [push_cast, ↓reduceIte, zA, zG, zB, zH, zI, zC, zJ, zK, zL, zD, zE, zF, zM, zN, zO, zP, zQ, reduceCtorEq]) | refine iX ?_ ?_ <;> intro _ | refine And.intro (by omega) ?_ | refine dq ?_)
            exact hf
          · have hf := fin w2 Lz (u ++ B0) z1 (noR (by omega)) z2 (Stb.refl _) (by simpa using h3) c03
            clear mR fin
            repeat' (first | (simp (disch := omega) only [push_cast, ↓reduceIte, zA, zG, zB, zH, zI, zC, zJ, zK, zL, zD, zE, zF, zM, zN, zO, zP, zQ, reduceCtorEq]) | refine iX ?_ ?_ <;> intro _ | refine And.intro (by omega) ?_ | refine dq ?_)
            exact hf
      · have h2 := same (by right; exact List.length_eq_zero_iff.1 (by omega)) w1 h1
        have c02 := c01
        obtain ⟨Lz, z1, z2, hLz⟩ := noL (by omega)
        have h3 : Sg w1 B B' g c L (X ++ Lz ++ (u ++ (B0 ++ Y))) := by rw [hLz]; simpa using h2
        have c03 := c02
        have rr : E < b := by omega
        repeat' (first | (simp (disch := omega) only [push_cast, ↓reduceIte, zA, zG, zB, zH, zI, zC, zJ, zK, zL, zD, zE, zF, zM, zN, zO, zP, zQ, reduceCtorEq, eE]) | refine iX ?_ ?_ <;> intro _ | refine And.intro (by omega) ?_ | refine dq ?_)
        refine (mR w1 Lz z2 h3 (by omega) rr).mono ?_
        rintro _ w4 ⟨Rz, y1, y2, y3, y4⟩
        have hf := fin w4 Lz Rz z1 y1 z2 y2 (by simpa using y3) (c03.trans y4)
        clear mR fin
        repeat' (first | (simp (disch := omega) only [push_cast, ↓reduceIte, zA, zG, zB, zH, zI, zC, zJ, zK, zL, zD, zE, zF, zM, zN, zO, zP, zQ, reduceCtorEq]) | refine iX ?_ ?_ <;> intro _ | refine And.intro (by omega) ?_ | refine dq ?_)
        exact hf
set_option maxHeartbeats 4000000 in
theorem gsymMergeHi_c (D : Nat) (ih : ∀ d, d < D → GSymOk kb od d) (B B' g c : Nat) (L X U V Y : List (Ge kb od)) (a m b : Nat) (w : World) (hD : b - a = D) (h : Sg w B B' g c L (X ++ (U ++ V) ++ Y)) (hX : X.length = a) (hU : U.length = m - a) (hV : V.length = b - m) (ham : a < m) (hmb : m < b) (sU : Srt glt U) (sV : Srt glt V) (hmm0 : ¬ (a + b) / 2 < m) (hA : ¬ m = a + 1) (hB : ¬ b = m + 1) :
    FnC Try.prog 143 #[.slice (some ⟨g, 0, none⟩) (X ++ (U ++ V) ++ Y).length c, .int .i64 (a : Int), .int .i64 (m : Int), .int .i64 (b : Int), (cmpG kb)] w fun r w' => Mgg B B' g c L X (U ++ V) Y w w' := by
  have hs := (glt_swo (kb := kb) (od := od))
  have hbig := h.big
  have hlen : (X ++ (U ++ V) ++ Y).length = b + Y.length := by simp only [List.length_append]; omega
  rw [hlen] at hbig
  have gM : ∀ i, a ≤ i → i < b → (X ++ (U ++ V) ++ Y)[i]! = (U ++ V)[i - a]! := fun i h1 h2 => by
    rw [cur_UV _ _ _ (by omega) (by simp only [List.length_append]; omega), hX]
  generalize hcur : X ++ (U ++ V) ++ Y = cur at *
  generalize hN : cur.length = N at *
  obtain ⟨mid, hmid⟩ : ∃ mid, mid = (a + b) / 2 := ⟨_, rfl⟩
  obtain ⟨p1, p2, p3, p4, p5, p6⟩ := sym_in ham hmb
  obtain ⟨S0, hS0⟩ : ∃ S0, S0 = s0 a m b := ⟨_, rfl⟩
  obtain ⟨R0, hR0⟩ : ∃ R0, R0 = r0 a m b := ⟨_, rfl⟩
  have hS0' : S0 = if mid < m then mid + m - b else a := by rw [hS0, hmid]; rfl
  have hR0' : R0 = if mid < m then mid else m := by rw [hR0, hmid]; rfl
  have p2' : S0 ≤ R0 := by rw [hS0, hR0]; exact p2
  have p1' : a ≤ S0 := by rw [hS0]; exact p1
  have p3' : R0 ≤ m := by rw [hR0]; exact p3
  have p4' : R0 ≤ mid := by rw [hR0, hmid]; exact p4
  have p5' : ∀ c, S0 ≤ c → c < R0 → m ≤ mid + m - 1 - c ∧ mid + m - 1 - c < b := by rw [hS0, hR0, hmid]; exact p5
  have p6' : mid + m - S0 ≤ b := by rw [hS0, hmid]; exact p6
  clear p1 p2 p3 p4 p5 p6
  have e1 : ((a : Int) + (b : Int)) / 2 = (mid : Int) := by omega
  have e2 : ((a : Int) + (b : Int)) / 2 ^ 1 = (mid : Int) := by rw [Int.pow_succ]; simpa using e1
  refine enter143 _ _ _ _ _ ?_
  unfold B143
  have hmm : ¬ mid < m := by omega
  · rw [if_neg hmm] at hS0' hR0'
    have e3 : (S0 : Int) = (a : Int) := by omega
    have e4 : (R0 : Int) = (m : Int) := by omega
    repeat' (first | (simp (disch := omega) only [push_cast, ↓reduceIte, zA, zG, zB, zH, zI, zC, zJ, zK, zL, zD, zE, zF, zM, zN, zO, zP, zQ, reduceCtorEq, e1, e2]) | refine iX ?_ ?_ <;> intro _ | refine And.intro (by omega) ?_ | refine dq ?_)
    refine vc_loop W143_4 (fun p : Nat × Nat => [(20, .int .i64 (p.1 : Int)), (21, .int .i64 (p.2 : Int))])
      (fun p w' => S0 ≤ p.1 ∧ p.1 ≤ p.2 ∧ p.2 ≤ R0 ∧ (p.1 = S0 ∨ glt cur[mid + m - p.1]! cur[p.1 - 1]! = false) ∧ (p.2 = R0 ∨ glt cur[mid + m - 1 - p.2]! cur[p.2]! = true) ∧ Later w w') (fun p => p.2 - p.1) (S0, R0) (by decide) ?_ ?_ ?_
    · simp (disch := omega) only [push_cast, ↓reduceIte, zA, zG, zB, zH, zI, zC, zJ, zK, zL, zD, zE, zF, zM, zN, zO, zP, zQ, reduceCtorEq, e3, e4]
    · exact ⟨Nat.le_refl _, p2', Nat.le_refl _, .inl rfl, .inl rfl, Later.refl _⟩
    rintro ⟨s, t⟩ uu w1 ⟨q1, q2, q3, q4, q5, l1⟩
    dsimp only at q1 q2 q3 q4 q5
    have h1 := h.later l1
    by_cases hst : s < t
    · obtain ⟨r, hr⟩ : ∃ r : Nat, r = (s + t) / 2 := ⟨_, rfl⟩
      have f1 : ((s : Int) + (t : Int)) / 2 = (r : Int) := by omega
      have f2 : ((s : Int) + (t : Int)) / 2 ^ 1 = (r : Int) := by rw [Int.pow_succ]; simpa using f1
      obtain ⟨b1, b2⟩ := p5' r (by omega) (by omega)
      have t1 : ((r : Int)).toNat = r := by omega
      have t2 : ((mid : Int) + (m : Int) - 1 - (r : Int)).toNat = mid + m - 1 - r := by omega
      have fr := h1.at (i := r) (by omega)
      have fa := h1.at (i := mid + m - 1 - r) (by omega)
      have er := h1.elAt (i := r) (by omega)
      have ea := h1.elAt (i := mid + m - 1 - r) (by omega)
      repeat' (first | (simp (disch := omega) only [push_cast, ↓reduceIte, zA, zG, zB, zH, zI, zC, zJ, zK, zL, zD, zE, zF, zM, zN, zO, zP, zQ, reduceCtorEq, f1, f2, t1, t2, fr, fa]) | refine iX ?_ ?_ <;> intro _ | refine And.intro (by omega) ?_ | refine dq ?_)
      refine QFn.of hb67 (v := .int .i64 (gcmp cur[mid + m - 1 - r]! cur[r]!)) (fun w' hl => gcompare_c _ _ w' (ea.is.later hl) (er.is.later hl)) ?_
      have hcmp : glt cur[mid + m - 1 - r]! cur[r]! = decide (gcmp cur[mid + m - 1 - r]! cur[r]! < 0) := rfl
      by_cases hlt : gcmp cur[mid + m - 1 - r]! cur[r]! < 0
      · repeat' (first | (simp (disch := omega) only [push_cast, ↓reduceIte, zA, zG, zB, zH, zI, zC, zJ, zK, zL, zD, zE, zF, zM, zN, zO, zP, zQ, reduceCtorEq]) | refine iX ?_ ?_ <;> intro _ | refine And.intro (by omega) ?_ | refine dq ?_)
        intro w2 l2
        repeat' (first | (simp (disch := omega) only [push_cast, ↓reduceIte, zA, zG, zB, zH, zI, zC, zJ, zK, zL, zD, zE, zF, zM, zN, zO, zP, zQ, reduceCtorEq]) | refine iX ?_ ?_ <;> intro _ | refine And.intro (by omega) ?_ | refine dq ?_)
        exact ⟨rfl, (s, r), by simp (disch := omega) only [push_cast, ↓reduceIte, zA, zG, zB, zH, zI, zC, zJ, zK, zL, zD, zE, zF, zM, zN, zO, zP, zQ, reduceCtorEq], ⟨q1, by dsimp only; omega, by dsimp only; omega, q4, .inr (by rw [hcmp]; exact decide_eq_true hlt), l1.trans l2⟩, by dsimp only; omega⟩
      · repeat' (first | (simp (disch := omega) only [push_cast, ↓reduceIte, zA, zG, zB, zH, zI, zC, zJ, zK, zL, zD, zE, zF, zM, zN, zO, zP, zQ, reduceCtorEq]) | refine iX ?_ ?_ <;> intro _ | refine And.intro (by omega) ?_ | refine dq ?_)
        intro w2 l2
        repeat' (first | (simp (disch := omega) only [push_cast, ↓reduceIte, zA, zG, zB, zH, zI, zC, zJ, zK, zL, zD, zE, zF, zM, zN, zO, zP, zQ, reduceCtorEq]) | refine iX ?_ ?_ <;> intro _ | refine And.intro (by omega) ?_ | refine dq ?_)
        exact ⟨rfl, (r + 1, t), by simp (disch := omega) only [push_cast, ↓reduceIte, zA, zG, zB, zH, zI, zC, zJ, zK, zL, zD, zE, zF, zM, zN, zO, zP, zQ, reduceCtorEq], ⟨by dsimp only; omega, by dsimp only; omega, q3, .inr (by rw [show r + 1 - 1 = r by omega, show mid + m - (r + 1) = mid + m - 1 - r by omega, hcmp]; exact decide_eq_false hlt), q5, l1.trans l2⟩, by dsimp only; omega⟩
    · have hts : t = s := by omega
      subst hts
      have k1 : t = S0 ∨ glt (U ++ V)[mid + m - t - a]! (U ++ V)[t - 1 - a]! = false := by
        rcases q4 with h | h
        · exact .inl h
        · by_cases h0 : t = S0
          · exact .inl h0
          · obtain ⟨b1, b2⟩ := p5' (t - 1) (by omega) (by omega)
            right
            rw [← gM (mid + m - t) (by omega) (by omega), ← gM (t - 1) (by omega) (by omega)]
            exact h
      have k2 : t = R0 ∨ glt (U ++ V)[mid + m - 1 - t - a]! (U ++ V)[t - a]! = true := by
        rcases q5 with h | h
        · exact .inl h
        · by_cases h0 : t = R0
          · exact .inl h0
          · obtain ⟨b1, b2⟩ := p5' t (by omega) (by omega)
            right
            rw [← gM (mid + m - 1 - t) (by omega) (by omega), ← gM t (by omega) (by omega)]
            exact h
      obtain ⟨huv, hAB⟩ := sym_facts hs hU hV ham hmb sU sV (by rw [← hS0]; exact q1) (by rw [← hR0]; exact q3) (by rw [← hS0, ← hmid]; exact k1) (by rw [← hR0, ← hmid]; exact k2) (fun h => .inr (sym_r h))
      rw [← hmid] at huv hAB
      obtain ⟨E, hE⟩ : ∃ E, E = mid + m - t := ⟨_, rfl⟩
      have eE : (mid : Int) + (m : Int) - (t : Int) = (E : Int) := by omega
      have hEb : E ≤ b := by omega
      rw [← hE] at huv hAB
      have hUU : U = U.take (t - a) ++ U.drop (t - a) := (List.take_append_drop _ _).symm
      have hVV : V = V.take (E - m) ++ V.drop (E - m) := (List.take_append_drop _ _).symm
      have n1 : (U.take (t - a)).length = t - a := by rw [List.length_take]; omega
      have n2 : (U.drop (t - a)).length = m - t := by rw [List.length_drop]; omega
      have n3 : (V.take (E - m)).length = E - m := by rw [List.length_take]; omega
      have n4 : (V.drop (E - m)).length = b - E := by rw [List.length_drop]; omega
      generalize U.take (t - a) = A0 at *
      generalize U.drop (t - a) = u at *
      generalize V.take (E - m) = v at *
      generalize V.drop (E - m) = B0 at *
      rw [hUU] at sU
      rw [hVV] at sV
      have hcl : X ++ (A0 ++ u ++ (v ++ B0)) ++ Y = cur := by rw [← hUU, ← hVV]; exact hcur
      obtain ⟨sA, su, _⟩ := Srt.append.1 sU
      obtain ⟨sv, sB, _⟩ := Srt.append.1 sV
      have fin : ∀ w' Lz Rz, Srt glt Lz → Srt glt Rz → Stb glt (A0 ++ v) Lz → Stb glt (u ++ B0) Rz → Sg w' B B' g c L (X ++ Lz ++ (Rz ++ Y)) → Chg w w' [g] → Mgg B B' g c L X (U ++ V) Y w w' := by
        intro w' Lz Rz z1 z2 z3 z4 z5 z6
        obtain ⟨y1, y2⟩ := halves hs sU sV huv hAB z3 z4 z1 z2
        refine ⟨Lz ++ Rz, y1, ?_, by simpa using z5, z6⟩
        rw [hUU, hVV]; exact y2
      have rotH : 0 < u.length → 0 < v.length → FnC Try.prog 160 #[.slice (some ⟨g, 0, none⟩) N c, .int .i64 (t : Int), .int .i64 (m : Int), .int .i64 (E : Int), (cmpG kb)] w1 fun r w' => Sg w' B B' g c L (X ++ A0 ++ v ++ u ++ (B0 ++ Y)) ∧ Chg w1 w' [g] := by
        intro hu hv
        have hin : Sg w1 B B' g c L (X ++ A0 ++ u ++ v ++ (B0 ++ Y)) := by
          have := h1
          rw [← hcl] at this
          simpa using this
        have := grotate_c B B' g c L (X ++ A0) u v (B0 ++ Y) w1 hin hu hv
        have a0 : (X ++ A0 ++ u ++ v ++ (B0 ++ Y)).length = N := by rw [← hN, ← hcl]; simp only [List.length_append]; omega
        have a1 : (X ++ A0).length = t := by rw [List.length_append]; omega
        have a2 : (X ++ A0).length + u.length = m := by omega
        have a3 : (X ++ A0).length + u.length + v.length = E := by omega
        rw [a0, a3, a2, a1] at this
        exact this
      have same : u = [] ∨ v = [] → ∀ w', Sg w' B B' g c L cur → Sg w' B B' g c L (X ++ A0 ++ v ++ u ++ (B0 ++ Y)) := by
        intro huv w' hw
        rw [← hcl] at hw
        rcases huv with rfl | rfl
        · simpa using hw
        · simpa using hw
      have mL : ∀ w2, Sg w2 B B' g c L (X ++ A0 ++ v ++ u ++ (B0 ++ Y)) → a < t → t < mid → FnC Try.prog gsymF #[.slice (some ⟨g, 0, none⟩) N c, .int .i64 (a : Int), .int .i64 (t : Int), .int .i64 (mid : Int), (cmpG kb)] w2 fun r w' => Mgg B B' g c L X (A0 ++ v) (u ++ (B0 ++ Y)) w2 w' := by
        intro w2 h2 z1 z2
        have := ih (mid - a) (by omega) B B' g c L X A0 v (u ++ (B0 ++ Y)) a t mid w2 rfl (by simpa using h2) hX n1 (by omega) z1 z2 sA sv
        have a0 : (X ++ (A0 ++ v) ++ (u ++ (B0 ++ Y))).length = N := by rw [← hN, ← hcl]; simp only [List.length_append]; omega
        rw [a0] at this
        exact this
      have noL : ¬ (a < t ∧ t < mid) → ∃ Lz, Srt glt Lz ∧ Stb glt (A0 ++ v) Lz ∧ Lz = A0 ++ v := by
        intro hno
        by_cases ht : a < t
        · have : v = [] := List.length_eq_zero_iff.1 (by omega)
          subst this
          exact ⟨A0 ++ [], by simpa using sA, Stb.refl _, rfl⟩
        · have : A0 = [] := List.length_eq_zero_iff.1 (by omega)
          subst this
          exact ⟨[] ++ v, by simpa using sv, Stb.refl _, rfl⟩
      have mR : ∀ w3 Lz, Stb glt (A0 ++ v) Lz → Sg w3 B B' g c L (X ++ Lz ++ (u ++ (B0 ++ Y))) → mid < E → E < b → FnC Try.prog gsymF #[.slice (some ⟨g, 0, none⟩) N c, .int .i64 (mid : Int), .int .i64 (E : Int), .int .i64 (b : Int), (cmpG kb)] w3 fun r w' => Mgg B B' g c L (X ++ Lz) (u ++ B0) Y w3 w' := by
        intro w3 Lz hz h3 z1 z2
        have hzl := hz.1
        rw [List.length_append] at hzl
        have hXL : (X ++ Lz).length = mid := by rw [List.length_append]; omega
        have := ih (b - mid) (by omega) B B' g c L (X ++ Lz) u B0 Y mid E b w3 rfl (by simpa using h3) hXL (by omega) n4 z1 z2 su sB
        have a0 : (X ++ Lz ++ (u ++ B0) ++ Y).length = N := by rw [← hN, ← hcl]; simp only [List.length_append]; omega
        rw [a0] at this
        exact this
      have noR : ¬ (mid < E ∧ E < b) → Srt glt (u ++ B0) := by
        intro hno
        by_cases ht : mid < E
        · have : B0 = [] := List.length_eq_zero_iff.1 (by omega)
          subst this
          simpa using su
        · have : u = [] := List.length_eq_zero_iff.1 (by omega)
          subst this
          simpa using sB
      have c01 : Chg w w1 [g] := Chg.of_later l1
      have m2 := n2
      have m3 : v.length = mid - t := by omega
      have nu : t ≤ m := by omega
      have nv : t ≤ mid := by omega
      have namid : a < mid := by omega
      clear huv hAB hUU hVV n1 n3 n4 sU sV sA su sv sB k1 k2 q4 q5 gM hs hcl ih p1' p2' p3' p4' p5' p6' hS0 hR0 hS0' hR0' e1 e2 e3 e4 hmid hst q1 q2 q3 hA hB hX hU hV hlen h hD
      by_cases pp : t < m
      · have qq : t < mid := by omega
        repeat' (first | (simp (disch := omega) only [push_cast, ↓reduceIte, zA, zG, zB, zH, zI, zC, zJ, zK, zL, zD, zE, zF, zM, zN, zO, zP, zQ, reduceCtorEq, eE]) | refine iX ?_ ?_ <;> intro _ | refine And.intro (by omega) ?_ | refine dq ?_)
        refine (rotH (by omega) (by omega)).mono ?_
        rintro _ w2 ⟨h2, c2⟩
        have c02 := c01.trans c2
        clear rotH same
        by_cases ll : a < t
        · repeat' (first | (simp (disch := omega) only [push_cast, ↓reduceIte, zA, zG, zB, zH, zI, zC, zJ, zK, zL, zD, zE, zF, zM, zN, zO, zP, zQ, reduceCtorEq]) | refine iX ?_ ?_ <;> intro _ | refine And.intro (by omega) ?_ | refine dq ?_)
          refine (mL w2 h2 ll (by omega)).mono ?_
          rintro _ w3 ⟨Lz, z1, z2, h3, c3⟩
          have c03 := c02.trans c3
          by_cases rr : E < b
          · repeat' (first | (simp (disch := omega) only [push_cast, ↓reduceIte, zA, zG, zB, zH, zI, zC, zJ, zK, zL, zD, zE, zF, zM, zN, zO, zP, zQ, reduceCtorEq]) | refine iX ?_ ?_ <;> intro _ | refine And.intro (by omega) ?_ | refine dq ?_)
            refine (mR w3 Lz z2 h3 (by omega) rr).mono ?_
            rintro _ w4 ⟨Rz, y1, y2, y3, y4⟩
            have hf := fin w4 Lz Rz z1 y1 z2 y2 (by simpa using y3) (c03.trans y4)
            clear mR fin
            repeat' (first | (simp (disch := omega) only [push_cast, ↓reduceIte, zA, zG, zB, zH, zI, zC, zJ, zK, zL, zD, zE, zF, zM, zN, zO, zP, zQ, reduceCtorEq]) | refine iX ?_ ?_ <;> intro _ | refine And.intro (by omega) ?_ | refine dq ?_)
            exact hf
          · have hf := fin w3 Lz (u ++ B0) z1 (noR (by omega)) z2 (Stb.refl _) (by simpa using h3) c03
            clear mR fin
            repeat' (first | (simp (disch := omega) only [push_cast, ↓reduceIte, zA, zG, zB, zH, zI, zC, zJ, zK, zL, zD, zE, zF, zM, zN, zO, zP, zQ, reduceCtorEq]) | refine iX ?_ ?_ <;> intro _ | refine And.intro (by omega) ?_ | refine dq ?_)
            exact hf
        · obtain ⟨Lz, z1, z2, hLz⟩ := noL (by omega)
          have h3 : Sg w2 B B' g c L (X ++ Lz ++ (u ++ (B0 ++ Y))) := by rw [hLz]; simpa using h2
          have c03 := c02
          by_cases rr : E < b
          · repeat' (first | (simp (disch := omega) only [push_cast, ↓reduceIte, zA, zG, zB, zH, zI, zC, zJ, zK, zL, zD, zE, zF, zM, zN, zO, zP, zQ, reduceCtorEq]) | refine iX ?_ ?_ <;> intro _ | refine And.intro (by omega) ?_ | refine dq ?_)
            refine (mR w2 Lz z2 h3 (by omega) rr).mono ?_
            rintro _ w4 ⟨Rz, y1, y2, y3, y4⟩
            have hf := fin w4 Lz Rz z1 y1 z2 y2 (by simpa using y3) (c03.trans y4)
            clear mR fin
            repeat' (first | (simp (disch := omega) only [push_cast, ↓reduceIte, zA, zG, zB, zH, zI, zC, zJ, zK, zL, zD, zE, zF, zM, zN, zO, zP, zQ, reduceCtorEq]) | refine iX ?_ ?_ <;> intro _ | refine And.intro (by omega) ?_ | refine dq ?_)
            exact hf
          · have hf := fin w2 Lz (u ++ B0) z1 (noR (by omega)) z2 (Stb.refl _) (by simpa using h3) c03
            clear mR fin
            repeat' (first | (simp (disch := omega) only [push_cast, ↓reduceIte, zA, zG, zB, zH, zI, zC, zJ, zK, zL, zD, zE, zF, zM, zN, zO, zP, zQ, reduceCtorEq]) | refine iX ?_ ?_ <;> intro _ | refine And.intro (by omega) ?_ | refine dq ?_)
            exact hf
      · by_cases qq : t < mid
        · have h2 := same (by left; exact List.length_eq_zero_iff.1 (by omega)) w1 h1
          have c02 := c01
          have ll : a < t := by omega
          repeat' (first | (simp (disch := omega) only [push_cast, ↓reduceIte, zA, zG, zB, zH, zI, zC, zJ, zK, zL, zD, zE, zF, zM, zN, zO, zP, zQ, reduceCtorEq, eE]) | refine iX ?_ ?_ <;> intro _ | refine And.intro (by omega) ?_ | refine dq ?_)
          refine (mL w1 h2 ll (by omega)).mono ?_
          rintro _ w3 ⟨Lz, z1, z2, h3, c3⟩
          have c03 := c02.trans c3
          have hf := fin w3 Lz (u ++ B0) z1 (noR (by omega)) z2 (Stb.refl _) (by simpa using h3) c03
          clear mR fin
          repeat' (first | (simp (disch := omega) only [push_cast, ↓reduceIte, zA, zG, zB, zH, zI, zC, zJ, zK, zL, zD, zE, zF, zM, zN, zO, zP, zQ, reduceCtorEq]) | refine iX ?_ ?_ <;> intro _ | refine And.intro (by omega) ?_ | refine dq ?_)
          exact hf
        · have h2 := same (by left; exact List.length_eq_zero_iff.1 (by omega)) w1 h1
          have c02 := c01
          obtain ⟨Lz, z1, z2, hLz⟩ := noL (by omega)
          have h3 : Sg w1 B B' g c L (X ++ Lz ++ (u ++ (B0 ++ Y))) := by rw [hLz]; simpa using h2
          have c03 := c02
          have hf := fin w1 Lz (u ++ B0) z1 (noR (by omega)) z2 (Stb.refl _) (by simpa using h3) c03
          clear mR fin
          repeat' (first | (simp (disch := omega) only [push_cast, ↓reduceIte, zA, zG, zB, zH, zI, zC, zJ, zK, zL, zD, zE, zF, zM, zN, zO, zP, zQ, reduceCtorEq, eE]) | refine iX ?_ ?_ <;> intro _ | refine And.intro (by omega) ?_ | refine dq ?_)
          exact hf
theorem gsymMerge_c : ∀ (D : Nat), GSymOk kb od D := by
  intro D
  induction D using Nat.strongRecOn with
  | ind D ih =>
  intro B B' g c L X U V Y a m b w hD h hX hU hV ham hmb sU sV
  by_cases hA : m = a + 1
  · obtain ⟨e, rfl⟩ : ∃ e, U = [e] := List.length_eq_one_iff.1 (by omega)
    exact gmergeA_c B B' g c L X e V Y a m b w h hX hA hV hmb sV
  by_cases hB : b = m + 1
  · obtain ⟨e, rfl⟩ : ∃ e, V = [e] := List.length_eq_one_iff.1 (by omega)
    exact gmergeB_c B B' g c L X U e Y a m b w h hX hU (by omega) hB sU
  by_cases hmm : (a + b) / 2 < m
  · exact gsymMergeLo_c D ih B B' g c L X U V Y a m b w hD h hX hU hV ham hmb sU sV hmm hA hB
  · exact gsymMergeHi_c D ih B B' g c L X U V Y a m b w hD h hX hU hV ham hmb sU sV hmm hA hB
end Go.Proofs.Ytnofalhkapmcnaa
end
section
set_option linter.unusedSimpArgs false
namespace Go.Proofs.Ytnofalhkapmcnaa
open Go.Vc Go.Key Go.Stab
set_option maxRecDepth 100000
variable {kb : Nat} {od : Int}
theorem gbs_take (bs : Nat) (R : List (Ge kb od)) (h : bs + bs ≤ R.length) : R = (R.take bs ++ (R.drop bs).take bs) ++ R.drop (bs + bs) := by
  have h1 : R.drop bs = (R.drop bs).take bs ++ (R.drop bs).drop bs := (List.take_append_drop _ _).symm
  rw [List.drop_drop] at h1
  have h2 : R = R.take bs ++ R.drop bs := (List.take_append_drop _ _).symm
  rw [List.append_assoc, ← h1, ← h2]
set_option maxHeartbeats 2000000 in
theorem gstable_c (B B' g c : Nat) (L l : List (Ge kb od)) (w : World) (h : Sg w B B' g c L l) :
    FnC Try.prog 107 #[.slice (some ⟨g, 0, none⟩) l.length c, .int .i64 (l.length : Int), (cmpG kb)] w fun r w' => ∃ l', Srt glt l' ∧ Stb glt l l' ∧ Sg w' B B' g c L l' ∧ Chg w w' [g] := by
  have hbig := h.big
  generalize hN : l.length = N at *
  refine enter107 _ _ _ ?_
  unfold B107
  repeat' (first | (simp (disch := omega) only [push_cast, ↓reduceIte, zA, zG, zB, zH, zI, zC, zJ, zK, zL, zD, zE, zF, zM, zN, zO, zP, zQ, reduceCtorEq]) | refine iX ?_ ?_ <;> intro _ | refine And.intro (by omega) ?_ | refine dq ?_)
  refine vc_loop W107_0 (fun A : Nat => [(7, .int .i64 (A : Int)), (8, .int .i64 ((A : Int) + 20))])
    (fun A w' => (∃ k, A = k * 20) ∧ ∃ P R, P.length = A ∧ P.length + R.length = N ∧ Bs glt 20 P ∧ Stb glt l (P ++ R) ∧ Sg w' B B' g c L (P ++ R) ∧ Chg w w' [g]) (fun A => N - A) 0 (by decide) ?_ ?_ ?_
  · simp (disch := omega) only [push_cast, ↓reduceIte, zA, zG, zB, zH, zI, zC, zJ, zK, zL, zD, zE, zF, zM, zN, zO, zP, zQ, reduceCtorEq]
  · exact ⟨⟨0, rfl⟩, [], l, rfl, by simp [hN], Bs.nil, Stb.refl _, h, Chg.refl _ _⟩
  rintro A uu w1 ⟨⟨k, hk⟩, P, R, hP, hPR, bP, tl, h1, c1⟩
  by_cases hlt : A + 20 ≤ N
  · have hR : R = R.take 20 ++ R.drop 20 := (List.take_append_drop _ _).symm
    have n1 : (R.take 20).length = 20 := by rw [List.length_take]; omega
    have n2 : (R.drop 20).length = R.length - 20 := List.length_drop
    generalize R.take 20 = M at *
    generalize R.drop 20 = Y at *
    subst hR
    have hi := ginsertion_c B B' g c L P M Y w1 (by simpa using h1)
    rw [show (P ++ M ++ Y).length = N by simp only [List.length_append] at *; omega, show P.length + M.length = A + 20 by omega, hP] at hi
    repeat' (first | (simp (disch := omega) only [push_cast, ↓reduceIte, zA, zG, zB, zH, zI, zC, zJ, zK, zL, zD, zE, zF, zM, zN, zO, zP, zQ, reduceCtorEq]) | refine iX ?_ ?_ <;> intro _ | refine And.intro (by omega) ?_ | refine dq ?_)
    refine hi.mono ?_
    rintro _ w2 ⟨M', sM, tM, h2, c2⟩
    have hl' := tM.1
    obtain ⟨A', hA'⟩ : ∃ A', A' = A + 20 := ⟨_, rfl⟩
    have eA : (A : Int) + 20 = (A' : Int) := by omega
    repeat' (first | (simp (disch := omega) only [push_cast, ↓reduceIte, zA, zG, zB, zH, zI, zC, zJ, zK, zL, zD, zE, zF, zM, zN, zO, zP, zQ, reduceCtorEq, eA]) | refine iX ?_ ?_ <;> intro _ | refine And.intro (by omega) ?_ | refine dq ?_)
    refine ⟨rfl, A', by simp (disch := omega) only [push_cast, ↓reduceIte, zA, zG, zB, zH, zI, zC, zJ, zK, zL, zD, zE, zF, zM, zN, zO, zP, zQ, reduceCtorEq, eA], ⟨⟨k + 1, by omega⟩, P ++ M', Y, by rw [List.length_append]; omega, by rw [List.length_append]; rw [List.length_append] at hPR; omega, bP.snoc (k := k) (by omega) sM (by omega), ?_, h2, c1.trans c2⟩, by dsimp only; omega⟩
    refine tl.trans ?_
    have := ((Stb.refl (lt := glt) P).append tM).append (Stb.refl (lt := glt) Y)
    simpa using this
  · have hi := ginsertion_c B B' g c L P R [] w1 (by simpa using h1)
    rw [show (P ++ R ++ ([] : List (Ge kb od))).length = N by simp only [List.length_append, List.length_nil]; omega, hPR, hP] at hi
    repeat' (first | (simp (disch := omega) only [push_cast, ↓reduceIte, zA, zG, zB, zH, zI, zC, zJ, zK, zL, zD, zE, zF, zM, zN, zO, zP, zQ, reduceCtorEq]) | refine iX ?_ ?_ <;> intro _ | refine And.intro (by omega) ?_ | refine dq ?_)
    refine hi.mono ?_
    rintro _ w2 ⟨R', sR, tR, h2, c2⟩
    have hl' := tR.1
    have bP' : Bs glt 20 (P ++ R') := bP.snoc (k := k) (by omega) sR (by omega)
    have tl' : Stb glt l (P ++ R') := tl.trans ((Stb.refl (lt := glt) P).append tR)
    have hlen : (P ++ R').length = N := by rw [List.length_append]; omega
    rw [List.append_nil] at h2
    have c12 := c1.trans c2
    clear hi h1 c1 c2 tR sR tl bP
    generalize P ++ R' = cur at *
    repeat' (first | (simp (disch := omega) only [push_cast, ↓reduceIte, zA, zG, zB, zH, zI, zC, zJ, zK, zL, zD, zE, zF, zM, zN, zO, zP, zQ, reduceCtorEq]) | refine iX ?_ ?_ <;> intro _ | refine And.intro (by omega) ?_ | refine dq ?_)
    refine vc_loop W107_1 (fun bs : Nat => [(6, .int .i64 (bs : Int))])
      (fun bs w' => 20 ≤ bs ∧ bs ≤ 2000000 ∧ ∃ cur, cur.length = N ∧ Bs glt bs cur ∧ Stb glt l cur ∧ Sg w' B B' g c L cur ∧ Chg w w' [g]) (fun bs => N - bs) 20 (by decide) ?_ ?_ ?_
    · simp (disch := omega) only [push_cast, ↓reduceIte, zA, zG, zB, zH, zI, zC, zJ, zK, zL, zD, zE, zF, zM, zN, zO, zP, zQ, reduceCtorEq]
    · exact ⟨by omega, by omega, cur, hlen, bP', tl', h2, c12⟩
    clear hlen bP' tl' h2 c12
    rintro bs uu2 w3 ⟨hb1, hb2, cur, hlen, bC, tC, h3, c3⟩
    by_cases hbn : bs < N
    · repeat' (first | (simp (disch := omega) only [push_cast, ↓reduceIte, zA, zG, zB, zH, zI, zC, zJ, zK, zL, zD, zE, zF, zM, zN, zO, zP, zQ, reduceCtorEq]) | refine iX ?_ ?_ <;> intro _ | refine And.intro (by omega) ?_ | refine dq ?_)
      refine vc_loop W107_2 (fun A : Nat => [(7, .int .i64 (A : Int)), (8, .int .i64 ((A : Int) + 2 * (bs : Int)))])
        (fun A w' => (∃ k, A = k * (bs + bs)) ∧ ∃ P R, P.length = A ∧ P.length + R.length = N ∧ Bs glt (bs + bs) P ∧ Bs glt bs R ∧ Stb glt l (P ++ R) ∧ Sg w' B B' g c L (P ++ R) ∧ Chg w w' [g]) (fun A => N - A) 0 (by decide) ?_ ?_ ?_
      · simp (disch := omega) only [push_cast, ↓reduceIte, zA, zG, zB, zH, zI, zC, zJ, zK, zL, zD, zE, zF, zM, zN, zO, zP, zQ, reduceCtorEq, Int.zero_add]
      · exact ⟨⟨0, by simp⟩, [], cur, rfl, by simp [hlen], Bs.nil, bC, tC, h3, c3⟩
      clear hlen bC tC h3 c3
      rintro A uu3 w4 ⟨⟨k, hk⟩, P, R, hP, hPR, bP, bR, tl, h4, c4⟩
      by_cases hlt : A + 2 * bs ≤ N
      · have hR := gbs_take bs R (by omega)
        obtain ⟨s1, s2, s3⟩ := bR.two
        have n1 : (R.take bs).length = bs := by rw [List.length_take]; omega
        have n2 : ((R.drop bs).take bs).length = bs := by rw [List.length_take, List.length_drop]; omega
        have n3 : (R.drop (bs + bs)).length = R.length - (bs + bs) := List.length_drop
        generalize R.take bs = U at *
        generalize (R.drop bs).take bs = V at *
        generalize R.drop (bs + bs) = Y at *
        have hRl : R.length = (U ++ V ++ Y).length := congrArg List.length hR
        rw [hR] at tl h4
        have hi := gsymMerge_c (2 * bs) B B' g c L P U V Y A (A + bs) (A + 2 * bs) w4 (by omega) (by simpa using h4) hP (by omega) (by omega) (by omega) (by omega) s1 s2
        rw [show (P ++ (U ++ V) ++ Y).length = N by simp only [List.length_append] at *; omega, show ((A + bs : Nat) : Int) = (A : Int) + (bs : Int) by omega, show ((A + 2 * bs : Nat) : Int) = (A : Int) + 2 * (bs : Int) by omega] at hi
        repeat' (first | (simp (disch := omega) only [push_cast, ↓reduceIte, zA, zG, zB, zH, zI, zC, zJ, zK, zL, zD, zE, zF, zM, zN, zO, zP, zQ, reduceCtorEq]) | refine iX ?_ ?_ <;> intro _ | refine And.intro (by omega) ?_ | refine dq ?_)
        refine hi.mono ?_
        rintro _ w5 ⟨Z, sZ, tZ, h5, c5⟩
        have hl' := tZ.1
        rw [List.length_append] at hl'
        have hk1 : (k + 1) * (bs + bs) = k * (bs + bs) + (bs + bs) := by rw [Nat.add_mul]; omega
        repeat' (first | (simp (disch := omega) only [push_cast, ↓reduceIte, zA, zG, zB, zH, zI, zC, zJ, zK, zL, zD, zE, zF, zM, zN, zO, zP, zQ, reduceCtorEq]) | refine iX ?_ ?_ <;> intro _ | refine And.intro (by omega) ?_ | refine dq ?_)
        refine ⟨rfl, A + 2 * bs, by simp (disch := omega) only [push_cast, ↓reduceIte, zA, zG, zB, zH, zI, zC, zJ, zK, zL, zD, zE, zF, zM, zN, zO, zP, zQ, reduceCtorEq], ⟨⟨k + 1, by omega⟩, P ++ Z, Y, by rw [List.length_append]; omega, by rw [List.length_append]; omega, bP.snoc (k := k) (by omega) sZ (by omega), s3, ?_, h5, c4.trans c5⟩, by dsimp only; omega⟩
        refine tl.trans ?_
        have := ((Stb.refl (lt := glt) P).append tZ).append (Stb.refl (lt := glt) Y)
        simpa using this
      · have fin : ∀ w5 Z, Srt glt Z → Stb glt R Z → Sg w5 B B' g c L (P ++ Z) → Chg w w5 [g] → 20 ≤ bs * 2 ∧ bs * 2 ≤ 2000000 ∧ ∃ cur, cur.length = N ∧ Bs glt (bs * 2) cur ∧ Stb glt l cur ∧ Sg w5 B B' g c L cur ∧ Chg w w5 [g] := by
          intro w5 Z sZ tZ h5 c5
          have hl' := tZ.1
          refine ⟨by omega, by omega, P ++ Z, by rw [List.length_append]; omega, ?_, tl.trans ((Stb.refl (lt := glt) P).append tZ), h5, c5⟩
          rw [show bs * 2 = bs + bs by omega]
          exact bP.snoc (k := k) (by omega) sZ (by omega)
        obtain ⟨b2, hb2'⟩ : ∃ b2, b2 = bs * 2 := ⟨_, rfl⟩
        rw [← hb2'] at fin
        have eb : (bs : Int) * 2 = (b2 : Int) := by omega
        by_cases hmn : A + bs < N
        · have hR : R = R.take bs ++ R.drop bs := (List.take_append_drop _ _).symm
          obtain ⟨s1, s2, _⟩ := bR.two
          have n1 : (R.take bs).length = bs := by rw [List.length_take]; omega
          have n2 : (R.drop bs).length = R.length - bs := List.length_drop
          rw [List.take_of_length_le (by omega)] at s2
          generalize R.take bs = U at *
          generalize R.drop bs = V at *
          have h4' : Sg w4 B B' g c L (P ++ (U ++ V) ++ []) := by rw [← hR]; simpa using h4
          have hi := gsymMerge_c (N - A) B B' g c L P U V [] A (A + bs) N w4 rfl h4' hP (by omega) (by omega) (by omega) (by omega) s1 s2
          rw [show (P ++ (U ++ V) ++ ([] : List (Ge kb od))).length = N by rw [← hR]; simp only [List.length_append, List.length_nil]; omega, show ((A + bs : Nat) : Int) = (A : Int) + (bs : Int) by omega] at hi
          repeat' (first | (simp (disch := omega) only [push_cast, ↓reduceIte, zA, zG, zB, zH, zI, zC, zJ, zK, zL, zD, zE, zF, zM, zN, zO, zP, zQ, reduceCtorEq]) | refine iX ?_ ?_ <;> intro _ | refine And.intro (by omega) ?_ | refine dq ?_)
          refine hi.mono ?_
          rintro _ w5 ⟨Z, sZ, tZ, h5, c5⟩
          rw [List.append_nil] at h5
          rw [← hR] at tZ
          have hf := fin w5 Z sZ tZ h5 (c4.trans c5)
          repeat' (first | (simp (disch := omega) only [push_cast, ↓reduceIte, zA, zG, zB, zH, zI, zC, zJ, zK, zL, zD, zE, zF, zM, zN, zO, zP, zQ, reduceCtorEq, eb]) | refine iX ?_ ?_ <;> intro _ | refine And.intro (by omega) ?_ | refine dq ?_)
          exact ⟨rfl, b2, by simp (disch := omega) only [push_cast, ↓reduceIte, zA, zG, zB, zH, zI, zC, zJ, zK, zL, zD, zE, zF, zM, zN, zO, zP, zQ, reduceCtorEq, eb], hf, by dsimp only; omega⟩
        · have hf := fin w4 R (bR.whole (by omega)) (Stb.refl _) h4 c4
          repeat' (first | (simp (disch := omega) only [push_cast, ↓reduceIte, zA, zG, zB, zH, zI, zC, zJ, zK, zL, zD, zE, zF, zM, zN, zO, zP, zQ, reduceCtorEq, eb]) | refine iX ?_ ?_ <;> intro _ | refine And.intro (by omega) ?_ | refine dq ?_)
          exact ⟨rfl, b2, by simp (disch := omega) only [push_cast, ↓reduceIte, zA, zG, zB, zH, zI, zC, zJ, zK, zL, zD, zE, zF, zM, zN, zO, zP, zQ, reduceCtorEq, eb], hf, by dsimp only; omega⟩
    · have hf : ∃ l', Srt glt l' ∧ Stb glt l l' ∧ Sg w3 B B' g c L l' ∧ Chg w w3 [g] := ⟨cur, bC.whole (by omega), tC, h3, c3⟩
      repeat' (first | (simp (disch := omega) only [push_cast, ↓reduceIte, zA, zG, zB, zH, zI, zC, zJ, zK, zL, zD, zE, zF, zM, zN, zO, zP, zQ, reduceCtorEq]) | refine iX ?_ ?_ <;> intro _ | refine And.intro (by omega) ?_ | refine dq ?_)
      exact hf
theorem gsortStable_c (B B' g c : Nat) (L l : List (Ge kb od)) (w : World) (h : Sg w B B' g c L l) :
    FnC Try.prog 66 #[.slice (some ⟨g, 0, none⟩) l.length c, (cmpG kb)] w fun r w' => ∃ l', Srt glt l' ∧ Stb glt l l' ∧ Sg w' B B' g c L l' ∧ Chg w w' [g] := by
  refine enter66 _ _ ?_
  unfold B66
  repeat' (first | (simp (disch := omega) only [push_cast, ↓reduceIte, zA, zG, zB, zH, zI, zC, zJ, zK, zL, zD, zE, zF, zM, zN, zO, zP, zQ, reduceCtorEq]) | refine iX ?_ ?_ <;> intro _ | refine And.intro (by omega) ?_ | refine dq ?_)
  refine (gstable_c B B' g c L l w h).mono ?_
  rintro _ w1 h1
  repeat' (first | (simp (disch := omega) only [push_cast, ↓reduceIte, zA, zG, zB, zH, zI, zC, zJ, zK, zL, zD, zE, zF, zM, zN, zO, zP, zQ, reduceCtorEq]) | refine iX ?_ ?_ <;> intro _ | refine And.intro (by omega) ?_ | refine dq ?_)
  exact h1
end Go.Proofs.Ytnofalhkapmcnaa
end
section
set_option linter.unusedSimpArgs false
namespace Go.Proofs.Ytnofalhkapmcnaa
open Go.Vc Go.Key Go.Stab
set_option maxRecDepth 100000
variable {kb : Nat} {od : Int}
theorem gins0_c (kb : Nat) (w : World) : FnC Try.prog 142 #[.slice none 0 0, .int .i64 0, .int .i64 0, (cmpG kb)] w fun r w' => w' = w := by
  refine enter142 _ _ _ _ ?_
  unfold B142
  repeat' (first | (simp (disch := omega) only [push_cast, ↓reduceIte, zA, zG, zB, zH, zI, zC, zJ, zK, zL, zD, zE, zF, zM, zN, zO, zP, zQ, reduceCtorEq]) | refine iX ?_ ?_ <;> intro _ | refine And.intro (by omega) ?_ | refine dq ?_)
  refine vc_loop W142_0 (fun _ : Nat => [(8, .int .i64 1)]) (fun _ w' => w' = w) (fun i => i) 0 (by decide) ?_ ?_ ?_
  · simp (disch := omega) only [push_cast, ↓reduceIte, zA, zG, zB, zH, zI, zC, zJ, zK, zL, zD, zE, zF, zM, zN, zO, zP, zQ, reduceCtorEq]
  · rfl
  rintro i uu w1 hw
  obtain rfl := hw.symm
  repeat' (first | (simp (disch := omega) only [push_cast, ↓reduceIte, zA, zG, zB, zH, zI, zC, zJ, zK, zL, zD, zE, zF, zM, zN, zO, zP, zQ, reduceCtorEq]) | refine iX ?_ ?_ <;> intro _ | refine And.intro (by omega) ?_ | refine dq ?_)
  all_goals rfl
theorem gstable0_c (kb : Nat) (w : World) : FnC Try.prog 107 #[.slice none 0 0, .int .i64 0, (cmpG kb)] w fun r w' => w' = w := by
  refine enter107 _ _ _ ?_
  unfold B107
  repeat' (first | (simp (disch := omega) only [push_cast, ↓reduceIte, zA, zG, zB, zH, zI, zC, zJ, zK, zL, zD, zE, zF, zM, zN, zO, zP, zQ, reduceCtorEq]) | refine iX ?_ ?_ <;> intro _ | refine And.intro (by omega) ?_ | refine dq ?_)
  refine vc_loop W107_0 (fun _ : Nat => [(7, .int .i64 0), (8, .int .i64 20)]) (fun _ w' => w' = w) (fun i => i) 0 (by decide) ?_ ?_ ?_
  · simp (disch := omega) only [push_cast, ↓reduceIte, zA, zG, zB, zH, zI, zC, zJ, zK, zL, zD, zE, zF, zM, zN, zO, zP, zQ, reduceCtorEq]
  · rfl
  rintro i uu w1 hw
  obtain rfl := hw.symm
  repeat' (first | (simp (disch := omega) only [push_cast, ↓reduceIte, zA, zG, zB, zH, zI, zC, zJ, zK, zL, zD, zE, zF, zM, zN, zO, zP, zQ, reduceCtorEq]) | refine iX ?_ ?_ <;> intro _ | refine And.intro (by omega) ?_ | refine dq ?_)
  refine (gins0_c kb w).mono ?_
  rintro _ w1 hw
  obtain rfl := hw.symm
  repeat' (first | (simp (disch := omega) only [push_cast, ↓reduceIte, zA, zG, zB, zH, zI, zC, zJ, zK, zL, zD, zE, zF, zM, zN, zO, zP, zQ, reduceCtorEq]) | refine iX ?_ ?_ <;> intro _ | refine And.intro (by omega) ?_ | refine dq ?_)
  refine vc_loop W107_1 (fun _ : Nat => [(6, .int .i64 20)]) (fun _ w' => w' = w) (fun i => i) 0 (by decide) ?_ ?_ ?_
  · simp (disch := omega) only [push_cast, ↓reduceIte, zA, zG, zB, zH, zI, zC, zJ, zK, zL, zD, zE, zF, zM, zN, zO, zP, zQ, reduceCtorEq]
  · rfl
  rintro i uu w1 hw
  obtain rfl := hw.symm
  repeat' (first | (simp (disch := omega) only [push_cast, ↓reduceIte, zA, zG, zB, zH, zI, zC, zJ, zK, zL, zD, zE, zF, zM, zN, zO, zP, zQ, reduceCtorEq]) | refine iX ?_ ?_ <;> intro _ | refine And.intro (by omega) ?_ | refine dq ?_)
  all_goals rfl
theorem gsortAny_c (B : Nat) (v : Value) (es : List (Ge kb od)) (w : World) (ho : OwnG w B v es) (hE : ∀ e ∈ es, EG w B e) (hl : es.length ≤ 1000000) : FnC Try.prog 66 #[v, (cmpG kb)] w fun r w' =>
    ∃ l', Srt glt l' ∧ Stb glt es l' ∧ RecS geC 3 w' v l' ∧ (∀ e ∈ l', EG w' B e) ∧ ∀ w0, Later w0 w → w0.heap.size ≤ B → Later w0 w' := by
  obtain ⟨o, c, rfl, _⟩ := RecS.slice (OwnR.s ho)
  cases o with
  | none =>
    obtain ⟨hn, hc0⟩ := (SlN.len (OwnR.s ho)).2.2.2.2 rfl
    have hn : es = [] := List.length_eq_zero_iff.1 hn
    subst hn
    have hc0 : c = 0 := hc0
    subst hc0
    refine enter66 _ _ ?_
    unfold B66
    simp only [List.length_nil]
    repeat' (first | (simp (disch := omega) only [push_cast, ↓reduceIte, zA, zG, zB, zH, zI, zC, zJ, zK, zL, zD, zE, zF, zM, zN, zO, zP, zQ, reduceCtorEq]) | refine iX ?_ ?_ <;> intro _ | refine And.intro (by omega) ?_ | refine dq ?_)
    refine (gstable0_c kb w).mono ?_
    rintro _ w1 hw
    obtain rfl := hw.symm
    repeat' (first | (simp (disch := omega) only [push_cast, ↓reduceIte, zA, zG, zB, zH, zI, zC, zJ, zK, zL, zD, zE, zF, zM, zN, zO, zP, zQ, reduceCtorEq]) | refine iX ?_ ?_ <;> intro _ | refine And.intro (by omega) ?_ | refine dq ?_)
    exact ⟨[], srt_nil, Stb.refl _, RecS.nil _, by simp, fun w0 h _ => h⟩
  | some a =>
    obtain ⟨g, rfl, hB, _, ⟨cs, hb⟩, _⟩ := own_writes ho
    refine (gsortStable_c B B g c es es w ⟨ho, hE, fun _ h => h, hl⟩).mono ?_
    rintro _ w1 ⟨l', s1, s2, s3, s4⟩
    have hl' := s2.1
    refine ⟨l', s1, s2, ?_, fun e he => s3.els e (s3.sub e he), fun w0 h hw0 => Chg.later h s4 (by intro j hj; rw [List.mem_singleton.1 hj]; omega)⟩
    rw [← hl']
    exact OwnR.s s3.own
end Go.Proofs.Ytnofalhkapmcnaa
end
section
namespace Go.Proofs.Ytnofalhkapmcnaa
open Go.Vc Go.Key Go.Stab Go.Fold
set_option maxRecDepth 100000
end Go.Proofs.Ytnofalhkapmcnaa
end
section
namespace Go.Vc
variable {α : Type} {enc : α → List Value} {k : Nat}
theorem rec_take (hk : ∀ x, (enc x).length = k) (l : List α) : ∀ j : Nat, (l.map enc).flatten.take (j * k) = ((l.take j).map enc).flatten := by
  induction l with
  | nil => intro j; simp
  | cons p l ih =>
    intro j
    cases j with
    | zero => simp
    | succ j =>
      simp only [List.map_cons, List.flatten_cons, List.take_succ_cons]
      rw [List.take_append, hk, List.take_of_length_le (by rw [hk, Nat.add_mul]; omega), show (j + 1) * k - k = j * k by rw [Nat.add_mul]; omega, ih]
theorem RecS.pre (hk : ∀ x, (enc x).length = k) {w : World} {o : Option Addr} {n c : Nat} {l : List α} (h : RecS enc k w (.slice o n c) l) {j : Nat} (hj : j ≤ l.length) : RecS enc k w (.slice o j c) (l.take j) := by
  have hn := (SlN.len h).1
  subst hn
  have := SlN.preN h hj
  rw [rec_take hk] at this
  unfold RecS
  rw [List.length_take, Nat.min_eq_left hj]
  exact this
end Go.Vc
namespace Go.Proofs.Ytnofalhkapmcnaa
open Go.Vc Go.Key Go.Stab Go.Fold
set_option maxRecDepth 100000
end Go.Proofs.Ytnofalhkapmcnaa
end
section
namespace Go.Fold
open Go.Key Go.Stab Go.Proofs.Ytnofalhkapmcnaa
theorem len_keys : ∀ (out l : List R), out.Pairwise (fun a b => rlt a b = true) → (∀ z ∈ out, ∃ y ∈ l, Same z y) → out.length ≤ l.length
  | [], _, _, _ => Nat.zero_le _
  | z :: T, l, hs, hm => by
    obtain ⟨y, hy, hzy⟩ := hm z (by simp)
    obtain ⟨A, B, rfl⟩ := List.append_of_mem hy
    rw [List.pairwise_cons] at hs
    have := len_keys T (A ++ B) hs.2 fun t ht => by
      obtain ⟨u, hu, htu⟩ := hm t (by simp [ht])
      rcases List.mem_append.1 hu with hu | hu
      · exact ⟨u, List.mem_append_left _ hu, htu⟩
      · rcases List.mem_cons.1 hu with rfl | hu
        · have h1 := hs.1 t ht
          have hst : Same z t := ⟨hzy.1.trans htu.1.symm, hzy.2.trans htu.2.symm⟩
          rw [rlt_l hst, rlt_swo.irr] at h1
          cases h1
        · exact ⟨u, List.mem_append_right _ hu, htu⟩
    simp only [List.length_cons, List.length_append] at this ⊢
    omega
theorem F.len {l out : List R} (h : F l out) : out.length ≤ l.length := len_keys out l h.srt fun z hz => h.mem hz
end Go.Fold
end
section
set_option linter.unusedSimpArgs false
namespace Go.Proofs.Ytnofalhkapmcnaa
open Go.Vc Go.Key Go.Cub Go.Fold Go.Stab
set_option maxRecDepth 100000
structure TyQ (d m : List ByteArray) (q : QD) : Prop where
  bl : ∀ n ∈ q.bl, n ∈ d
  bln : q.bl.length ≤ 6
  tl : ∀ t ∈ q.tl, TmOk m t
  tln : q.tl.length ≤ 8
  hl : ∀ h ∈ q.hl, TmOk m h.t
  od : q.od.natAbs ≤ q.tl.length
  lm : 0 ≤ q.lm
def grpG (m : List ByteArray) (q : QD) (r : R) : GR := (r.1, r.2.1, q.tl.map fun t => tmV m t r)
def grsL (m : List ByteArray) (q : QD) (l : List R) : List GR := (l.filter (stQ m q.hl)).map (grpG m q)
theorem grsL_app (m : List ByteArray) (q : QD) (a b : List R) : grsL m q (a ++ b) = grsL m q a ++ grsL m q b := by unfold grsL; rw [List.filter_append, List.map_append]
theorem grsL_len (m : List ByteArray) (q : QD) (a : List R) : (grsL m q a).length ≤ a.length := by unfold grsL; rw [List.length_map]; exact List.length_filter_le _ _
theorem grsL_skip (m : List ByteArray) (q : QD) {r : R} (h : stQ m q.hl r = false) : grsL m q [r] = [] := by
  unfold grsL; rw [List.filter_cons_of_neg (by rw [h]; simp)]; rfl
theorem grsL_keep (m : List ByteArray) (q : QD) {r : R} (h : stQ m q.hl r = true) : grsL m q [r] = [grpG m q r] := by
  unfold grsL; rw [List.filter_cons_of_pos h]; rfl
def FinL (m : List ByteArray) (q : QD) (l : List R) (gs : List GR) : Prop := ∃ rows, F l rows ∧ ∃ s, Srt (rglt q.od) s ∧ Stb (rglt q.od) (grsL m q rows) s ∧ gs = if 0 < q.lm then s.take q.lm.toNat else s
def FinR (m : List ByteArray) (q : QD) (w : World) (v : Value) (e : Int) (l : List R) : Prop := (e = 121 ∧ v = .slice none 0 0 ∧ Bad l) ∨ (e = 0 ∧ ∃ gs : List Gx, RecS gxC 3 w v gs ∧ (∀ z ∈ gs, GxIs w z) ∧ FinL m q l (gs.map Gx.abs))
structure PT (w0 w : World) (b B : Nat) (t : Int) (dv : Value) (ks : List Int) : Prop where
  later : Later w0 w
  cur : ∃ kv, Blk w b #[.int .i64 t, dv, kv] 113 ∧ OwnI w B 3 kv ks
theorem PT.snoc {w0 w8 w9 : World} {b B : Nat} {t : Int} {dv kv v' : Value} {ks : List Int} {n : Int} (l : Later w0 w8) (hb : w0.heap.size ≤ b) (hB : w0.heap.size ≤ B) (h : Blk w8 b #[.int .i64 t, dv, kv] 113) (ho : OwnI w8 B 3 kv ks) (ho' : OwnI w9 B 3 v' (ks ++ [n])) (hg : w8.grownBy w9 kv.ownBlock) :
    w9.frozen? ⟨b, 2, none⟩ = false ∧ (∃ y, w9.cell? ⟨b, 2, none⟩ = some y) ∧ PT w0 (w9.setCell ⟨b, 2, none⟩ v') b B t dv (ks ++ [n]) := by
  have q4 : Blk w9 b _ 113 := grown_obj ho hg h (fun cs h => by simp at h)
  have q5 := l.appended ho hB hg
  have gc := chg_setCell (i := 2) w9 (ks := [b]) (k := b) (by simp) v'
  exact ⟨q4.frozen 2, ⟨_, q4.cell 2⟩, gc.later q5 (by intro j hj; rw [List.mem_singleton.1 hj]; omega), v', q4.set 2 v', own_chg_ty ho' q4 (by decide) gc⟩
abbrev OwnX (w : World) (B : Nat) (v : Value) (l : List Gx) : Prop := OwnR gxC 3 w B 113 v l
theorem GxO.grown {w w' : World} {B B' : Nat} {v : Value} {es : List Gx} {g : Gx} (h : GxO w B' g) (hv : OwnX w B v es) (gr : w.grownBy w' v.ownBlock) : GxO w' B' g := by
  have gc := Chg.of_grown gr
  obtain ⟨o, c, rfl, _⟩ := RecS.slice (OwnR.s hv)
  cases o with
  | none => exact h.later ⟨gc.os, gc.tape, gc.output, gc.size, fun k hk => gc.block k hk (by simp [Value.ownBlock])⟩
  | some a =>
    obtain ⟨k, rfl, _, _, ⟨cs, hb⟩, _⟩ := own_writes hv
    exact h.chg hb gc
theorem vAppend_g {w : World} {K : Value → World → Prop} {ty : TypeId} {B : Nat} {v x : Value} {l r : List Gx} (hown : OwnX w B v l) (hx : RecS gxC 3 w x r) (h1 : ∀ e ∈ r, GxIs w e) (h63 : l.length + r.length ≤ 100000000) (hbase : B ≤ w.heap.size)
    (hK : ∀ v' w', OwnX w' B v' (l ++ r) → w.grownBy w' v.ownBlock → (v'.ownBlock = v.ownBlock ∨ v'.ownBlock = some w.heap.size) → K v' w') : vAppend Try.prog #[73, 73] ty #[v, x] K w := by
  refine vAppend_at Try.underlying73 ti113 rfl (by decide) hown hx ?_ (by unfold maxLen; omega) (by omega) hbase ?_
  · intro u hu
    obtain ⟨ys, hy, hu⟩ := List.mem_flatten.1 hu
    obtain ⟨p, hp, rfl⟩ := List.mem_map.1 hy
    exact gxC_one (h1 p hp) u hu
  · intro v' w' ho hg hs
    refine hK v' w' ?_ hg hs
    unfold OwnX OwnR
    simpa using ho
theorem gstb_abs {kb : Nat} {od : Int} {l l' : List (Ge kb od)} (h : Stb glt l l') : Stb (rglt od) (l.map fun e => e.g.abs) (l'.map fun e => e.g.abs) := by
  refine ⟨by simp [h.1], fun q => ?_⟩
  have e : ∀ m : List (Ge kb od), (m.map fun e => e.g.abs).filter (eqv (rglt od) q) = (m.filter (eqv glt ⟨⟨q.1, q.2.1, q.2.2, .slice none 0 0, .slice none 0 0⟩⟩)).map fun e => e.g.abs := by
    intro m
    rw [List.filter_map]
    congr 1
    refine List.filter_congr fun x _ => ?_
    show eqv (rglt od) q x.g.abs = eqv glt _ x
    unfold eqv
    rw [glt_is, glt_is]
    rfl
  rw [e, e, h.2]
theorem gsrt_abs {kb : Nat} {od : Int} {l : List (Ge kb od)} (h : Srt glt l) : Srt (rglt od) (l.map fun e => e.g.abs) := by
  unfold Srt at h ⊢
  rw [List.pairwise_map]
  refine h.imp fun hab => ?_
  rw [← glt_is]; exact hab
theorem srt_zero (l : List GR) : Srt (rglt 0) l := by
  unfold Srt
  induction l with
  | nil => exact List.Pairwise.nil
  | cons a l ih => exact List.Pairwise.cons (fun b _ => rfl) ih
set_option maxHeartbeats 4000000 in
theorem gfinish_c (D : Nat) (dv mv v : Value) (d m : List ByteArray) (q : QD) (l : List El) (w : World) (h : ScIs w dv mv d m) (hq : q.Ok w) (hT : TyQ d m q) (hl : RecS elC 4 w v l) (hes : ∀ e ∈ l, EIs w e ∧ Gd D m.length e.abs) (h63 : l.length ≤ 100000) :
    FnC Try.prog 25 #[scV dv mv, .agg (qdC q).toArray, v] w fun r w' => ∃ vv e, r = .tuple #[vv, .int .i64 e] ∧ FinR m q w' vv e (l.map El.abs) ∧ Later w w' := by
  have esc : scV dv mv = .agg #[dv, mv] := rfl
  rw [esc]
  obtain ⟨lo, lc, rfl, gl1, gl2⟩ := hl.slice
  obtain ⟨to, tc, htv, ht1, ht2⟩ := RecS.slice hq.tv
  refine enter25 _ _ _ ?_
  unfold B25
  have eca : (Value.agg (qdC q).toArray).cells = (qdC q).toArray := rfl
  have ecb : (Value.agg #[dv, mv]).cells = #[dv, mv] := rfl
  obtain ⟨l1, s1, F⟩ := box2 w dv mv 24
  have B2 := Blk.new (w.alloc (.cells #[dv, mv] 24)) (qdC q).toArray 42
  have l2 := later_alloc (w.alloc (.cells #[dv, mv] 24)) (.cells (qdC q).toArray 42)
  rw [s1] at B2
  repeat' (first | (simp (disch := omega) only [push_cast, ↓reduceIte, zA, zG, zB, zH, zI, zC, zJ, zK, zL, zD, zE, zF, zM, zN, zO, zP, zQ, reduceCtorEq, eca, ecb, s1]) | refine iX ?_ ?_ <;> intro _ | refine And.intro (by omega) ?_ | fail)
  have l01 := l1.trans l2
  have FS : ∀ w', Later ((w.alloc (.cells #[dv, mv] 24)).alloc (.cells (qdC q).toArray 42)) w' → cellsAt w' ⟨w.heap.size, 0, none⟩ 2 = some [dv, mv] := fun w' hl => (F w' (l2.trans hl)).2.2
  clear F l1 l2 s1
  generalize (w.alloc (.cells #[dv, mv] 24)).alloc (.cells (qdC q).toArray 42) = w1 at *
  generalize hkq : w.heap.size = kf at *
  have h1 := h.later l01
  have q1 := hq.later l01
  have QB := fun w' (hl : Later w1 w') => qdLater B2 hl
  repeat' (first | (simp (disch := omega) only [push_cast, ↓reduceIte, zA, zG, zB, zH, zI, zC, zJ, zK, zL, zD, zE, zF, zM, zN, zO, zP, zQ, reduceCtorEq]) | refine iX ?_ ?_ <;> intro _ | refine And.intro (by omega) ?_ | refine dq ?_)
  refine (rfold_c D m.length _ l w1 (hl.later l01) (fun e he => ⟨(hes e he).1.later l01, (hes e he).2⟩) h63).mono ?_
  rintro _ w2 ⟨vv, er, rfl, hf, l2⟩
  have l02 := l01.trans l2
  rcases hf with ⟨rfl, rfl, hbad⟩ | ⟨rfl, es, ho, hF, hZ⟩
  · repeat' (first | (simp (disch := omega) only [push_cast, ↓reduceIte, zA, zG, zB, zH, zI, zC, zJ, zK, zL, zD, zE, zF, zM, zN, zO, zP, zQ, reduceCtorEq]) | refine iX ?_ ?_ <;> intro _ | refine And.intro (by omega) ?_ | refine dq ?_)
    exact ⟨_, _, rfl, .inl ⟨rfl, rfl, hbad⟩, l02⟩
  have hesl : es.length ≤ 100000 := by
    have h2 := F.len hF
    rw [List.length_map, List.length_map] at h2
    omega
  obtain ⟨eo, ec, rfl, ge1, ge2⟩ := RecS.slice (OwnR.s ho)
  repeat' (first | (simp (disch := omega) only [push_cast, ↓reduceIte, zA, zG, zB, zH, zI, zC, zJ, zK, zL, zD, zE, zF, zM, zN, zO, zP, zQ, reduceCtorEq]) | refine iX ?_ ?_ <;> intro _ | refine And.intro (by omega) ?_ | refine dq ?_)
  refine vc_loop W25_0 (fun p : Nat × Value => [(9, p.2), (26, .int .i64 (p.1 : Int))])
    (fun p w' => p.1 ≤ es.length ∧ Later w2 w' ∧ ∃ os, OwnX w' w2.heap.size p.2 os ∧ os.map Gx.abs = grsL m q ((es.take p.1).map El.abs) ∧ ∀ z ∈ os, GxO w' w1.heap.size z ∧ z.k.length = q.tl.length) (fun p => es.length - p.1) (0, .slice none 0 0) (by decide) ?_ ?_ ?_
  · simp (disch := omega) only [push_cast, ↓reduceIte, zA, zG, zB, zH, zI, zC, zJ, zK, zL, zD, zE, zF, zM, zN, zO, zP, zQ, reduceCtorEq]
  · exact ⟨by omega, Later.refl _, [], OwnR.nil _ _ _, by simp [grsL], by simp⟩
  rintro ⟨i, ov⟩ uu w3 ⟨hi, l3, os, hO, hos, hG⟩
  dsimp only at hi hO hos
  have hosl : os.length ≤ es.length := by
    have h1 := congrArg List.length hos
    have h2 := grsL_len m q ((es.take i).map El.abs)
    rw [List.length_map] at h1
    rw [List.length_map, List.length_take] at h2
    omega
  have l13 := l2.trans l3
  have l03 := l01.trans l13
  by_cases hlt : i < es.length
  · obtain ⟨ad, rfl, f1⟩ := RecS.at elC_len (RecS.later (OwnR.s ho) l3) hlt
    have hE := (hZ es[i] (List.getElem_mem _)).1.later l3
    have hgd := (hZ es[i] (List.getElem_mem _)).2
    have htk : grsL m q ((es.take (i + 1)).map El.abs) = grsL m q ((es.take i).map El.abs) ++ grsL m q [es[i].abs] := by rw [take_snoc es i hlt, List.map_append, grsL_app]; rfl
    generalize es[i] = x at *
    have hxa : x.a.length = m.length := hgd.rr.2.2
    obtain ⟨oo, oc, rfl, _⟩ := RecS.slice (OwnR.s hO)
    obtain ⟨ox, cx, hxdv, hxs, gx1, gx2, gx3⟩ := StS.opn hE.is.1
    obtain ⟨oa, ca, hxav, _⟩ := RecS.slice hE.is.2
    unfold elC at f1
    repeat' (first | (simp (disch := omega) only [push_cast, ↓reduceIte, zA, zG, zB, zH, zI, zC, zJ, zK, zL, zD, zE, zF, zM, zN, zO, zP, zQ, reduceCtorEq, f1]) | refine iX ?_ ?_ <;> intro _ | refine And.intro (by omega) ?_ | refine dq ?_)
    refine vStore_new rfl rfl (by intro u hu; exact elC_one hE.is u (by simpa [elC] using hu)) ?_
    have l4 := later_alloc w3 (.cells #[.int .i64 x.t, x.dv, .int .i64 x.n, x.av] 72)
    obtain ⟨b0, b1, _, _, b4⟩ := box4 w3 (.int .i64 x.t) x.dv (.int .i64 x.n) x.av 72
    generalize w3.alloc (.cells #[.int .i64 x.t, x.dv, .int .i64 x.n, x.av] 72) = w4 at *
    generalize w3.heap.size = k4 at *
    have b4 : cellsAt w4 ⟨k4, 0, none⟩ 4 = some (elC x) := b4
    have b4' := b4
    have l14 := l13.trans l4
    have fq : cellsAt w4 ⟨kf + 1, 0, none⟩ 12 = some (qdC q) := Blk.cellsAt (l := qdC q) (QB w4 l14)
    have fs := FS w4 l14
    repeat' (first | (simp (disch := omega) only [push_cast, ↓reduceIte, zA, zG, zB, zH, zI, zC, zJ, zK, zL, zD, zE, zF, zM, zN, zO, zP, zQ, reduceCtorEq, fq, fs, b4]) | refine iX ?_ ?_ <;> intro _ | refine And.intro (by omega) ?_ | refine dq ?_)
    refine (gstays_c dv mv d m q x w4 (h1.later l14) (q1.later l14) hT.hl (hE.is.later l4) hxa).mono ?_
    rintro _ w5 ⟨rfl, l5⟩
    have l45 := l4.trans l5
    cases hst : stQ m q.hl x.abs with
    | false =>
      have hs : i + 1 ≤ es.length ∧ Later w2 w5 ∧ ∃ os', OwnX w5 w2.heap.size (.slice oo os.length oc) os' ∧ os'.map Gx.abs = grsL m q ((es.take (i + 1)).map El.abs) ∧ ∀ z ∈ os', GxO w5 w1.heap.size z ∧ z.k.length = q.tl.length :=
        ⟨by omega, l3.trans l45, os, hO.later l45, by rw [htk, grsL_skip m q hst, List.append_nil]; exact hos, fun z hz => ⟨(hG z hz).1.later l45, (hG z hz).2⟩⟩
      repeat' (first | (simp (disch := omega) only [push_cast, ↓reduceIte, zA, zG, zB, zH, zI, zC, zJ, zK, zL, zD, zE, zF, zM, zN, zO, zP, zQ, reduceCtorEq]) | refine iX ?_ ?_ <;> intro _ | refine And.intro (by omega) ?_ | refine dq ?_)
      exact ⟨rfl, (i + 1, _), by simp (disch := omega) only [push_cast, ↓reduceIte, zA, zG, zB, zH, zI, zC, zJ, zK, zL, zD, zE, zF, zM, zN, zO, zP, zQ, reduceCtorEq], hs, by dsimp only; omega⟩
    | true =>
    have b05 := l5.cell b0
    have b15 := l5.cell b1
    have b45 := cellsAt_later l5 _ b4
    rw [hxdv] at b15
    repeat' (first | (simp (disch := omega) only [push_cast, ↓reduceIte, zA, zG, zB, zH, zI, zC, zJ, zK, zL, zD, zE, zF, zM, zN, zO, zP, zQ, reduceCtorEq, b05, b15, addr_add_eq, Nat.zero_add]) | refine iX ?_ ?_ <;> intro _ | refine And.intro (by omega) ?_ | refine dq ?_)
    have hone : ∀ u ∈ (#[.int .i64 x.t, .slice ox x.d.length cx, .slice none 0 0] : Array Value).toList, u.oneCell' = true := by
      intro u hu
      simp at hu
      rcases hu with rfl | rfl | rfl <;> rfl
    refine vStore_new rfl rfl hone ?_
    have l6 := later_alloc w5 (.cells #[.int .i64 x.t, .slice ox x.d.length cx, .slice none 0 0] 113)
    have B6 := Blk.new w5 #[.int .i64 x.t, .slice ox x.d.length cx, .slice none 0 0] 113
    generalize w5.alloc (.cells #[.int .i64 x.t, .slice ox x.d.length cx, .slice none 0 0] 113) = w6 at *
    have P6 : PT w5 w6 w5.heap.size w5.heap.size x.t (.slice ox x.d.length cx) [] := ⟨l6, _, B6, own_nil _ _ _ _⟩
    have b46 := cellsAt_later l6 _ b45
    have l35 := l45
    have l16 := l14.trans (l5.trans l6)
    obtain ⟨a0, _⟩ := qdAt (QB w6 l16)
    rw [htv] at a0
    generalize hb : w5.heap.size = b at *
    clear B6 f1 b0 b1 b4 b05 b15 b45 fq fs
    repeat' (first | (simp (disch := omega) only [push_cast, ↓reduceIte, zA, zG, zB, zH, zI, zC, zJ, zK, zL, zD, zE, zF, zM, zN, zO, zP, zQ, reduceCtorEq, a0, addr_add_eq, Nat.zero_add]) | refine iX ?_ ?_ <;> intro _ | refine And.intro (by omega) ?_ | refine dq ?_)
    refine vc_loop W25_1 (fun k : Nat => [(43, .int .i64 (k : Int))])
      (fun k w' => k ≤ q.tl.length ∧ PT w5 w' b b x.t (.slice ox x.d.length cx) ((q.tl.take k).map fun t => tmV m t x.abs)) (fun k => q.tl.length - k) 0 (by decide) ?_ ?_ ?_
    · simp (disch := omega) only [push_cast, ↓reduceIte, zA, zG, zB, zH, zI, zC, zJ, zK, zL, zD, zE, zF, zM, zN, zO, zP, zQ, reduceCtorEq]
    · exact ⟨by omega, by simpa using P6⟩
    clear P6 a0 b46
    rintro k uu3 w7 ⟨hk7, P7⟩
    have l57 := P7.later
    have l37 := l35.trans l57
    have l17 := l13.trans l37
    have b47 := cellsAt_later (l5.trans l57) 4 b4'
    by_cases hkl : k < q.tl.length
    · have htm := hT.tl q.tl[k] (List.getElem_mem _)
      have htq := RecS.later hq.tv (l01.trans l17)
      rw [htv] at htq
      obtain ⟨at_, rfl, ft⟩ := RecS.at tdC_len htq hkl
      have hks : (q.tl.take (k + 1)).map (fun t => tmV m t x.abs) = (q.tl.take k).map (fun t => tmV m t x.abs) ++ [tmV m q.tl[k] x.abs] := by rw [take_snoc q.tl k hkl, List.map_append]; rfl
      have htO := hq.tl q.tl[k] (List.getElem_mem _)
      have hksl : ((q.tl.take k).map fun t => tmV m t x.abs).length = k := by simp; omega
      generalize q.tl[k] = t at *
      unfold tdC at ft
      repeat' (first | (simp (disch := omega) only [push_cast, ↓reduceIte, zA, zG, zB, zH, zI, zC, zJ, zK, zL, zD, zE, zF, zM, zN, zO, zP, zQ, reduceCtorEq, ft]) | refine iX ?_ ?_ <;> intro _ | refine And.intro (by omega) ?_ | refine dq ?_)
      refine vStore_new rfl rfl (by intro u hu; simp at hu; rcases hu with rfl | rfl <;> rfl) ?_
      have l8 := later_alloc w7 (.cells #[.int .i64 t.f, .string t.m] 63)
      have B8 := Blk.new w7 #[.int .i64 t.f, .string t.m] 63
      generalize w7.alloc (.cells #[.int .i64 t.f, .string t.m] 63) = w8 at *
      generalize w7.heap.size = k8 at *
      have f8 : cellsAt w8 ⟨k8, 0, none⟩ 2 = some (tdC t) := Blk.cellsAt (l := tdC t) B8
      obtain ⟨_, kvc, Bc, hOc⟩ := P7
      have Bc := Bc.chg (Chg.of_later (ks := []) l8) (by simp)
      have hOc := hOc.later l8
      obtain ⟨oc2, cc2, hkvc⟩ := hOc.slice
      subst hkvc
      have f2 : w8.cell? ⟨b, 2, none⟩ = some (.slice oc2 ((q.tl.take k).map fun t => tmV m t x.abs).length cc2) := Bc.cell 2
      have b48 := cellsAt_later l8 _ b47
      have l58 := l57.trans l8
      have l38 := l35.trans l58
      have l18 := l13.trans l38
      have fs8 := FS w8 l18
      generalize ((q.tl.take k).map fun t => tmV m t x.abs) = ks at *
      repeat' (first | (simp (disch := omega) only [push_cast, ↓reduceIte, zA, zG, zB, zH, zI, zC, zJ, zK, zL, zD, zE, zF, zM, zN, zO, zP, zQ, reduceCtorEq, f2, f8, fs8, b48, addr_add_eq, Nat.zero_add]) | refine iX ?_ ?_ <;> intro _ | refine And.intro (by omega) ?_ | fail)
      refine drawn_k 7 ?_
      repeat' (first | (simp (disch := omega) only [push_cast, ↓reduceIte, zA, zG, zB, zH, zI, zC, zJ, zK, zL, zD, zE, zF, zM, zN, zO, zP, zQ, reduceCtorEq, f2, f8, fs8, b48, addr_add_eq, Nat.zero_add]) | refine iX ?_ ?_ <;> intro _ | refine And.intro (by omega) ?_ | fail)
      refine NFn.fix hb65 (v := .int .i64 (tmV m t x.abs)) (fun w' hl => gterm_c dv mv d m t x w' (h1.later (l18.trans hl)) htm (hE.is.later (l38.trans hl)) hxa) ?_
      repeat' (first | (simp (disch := omega) only [push_cast, ↓reduceIte, zA, zG, zB, zH, zI, zC, zJ, zK, zL, zD, zE, zF, zM, zN, zO, zP, zQ, reduceCtorEq, f2, f8, fs8, b48, addr_add_eq, Nat.zero_add]) | refine iX ?_ ?_ <;> intro _ | refine And.intro (by omega) ?_ | fail)
      refine nB_of _ (RowV w8 3 #[.int .i64 (tmV m t x.abs)] 1) (stb_row _ _ _ _) (fun w' hl => ?_) ?_
      · repeat' (first | (simp (disch := omega) only [push_cast, ↓reduceIte, zA, zG, zB, zH, zI, zC, zJ, zK, zL, zD, zE, zF, zM, zN, zO, zP, zQ, reduceCtorEq]) | refine iX ?_ ?_ <;> intro _ | refine And.intro (by omega) ?_ | fail)
        exact RowV.new hl _ _ _
      repeat' (first | (simp (disch := omega) only [push_cast, ↓reduceIte, zA, zG, zB, zH, zI, zC, zJ, zK, zL, zD, zE, zF, zM, zN, zO, zP, zQ, reduceCtorEq]) | refine iX ?_ ?_ <;> intro _ | refine And.intro (by omega) ?_ | fail)
      rintro w9 l9 _ ⟨kb, rfl, hkb, Bk⟩
      have hsl : SlN w9 1 (.slice (some ⟨kb, 0, none⟩) 1 1) 1 [.int .i64 (tmV m t x.abs)] := Sl.of_blk (xs := [.int .i64 (tmV m t x.abs)]) Bk rfl (by unfold maxLen; omega)
      have Bc9 := Bc.chg (Chg.of_later (ks := []) l9) (by simp)
      have hO9 := hOc.later l9
      have l59 := l58.trans l9
      refine vAppend_i Try.underlying29 ti3 rfl hO9 hsl (by have := hT.tln; omega) (by omega) (by rw [← hb]; exact l59.size) ?_
      intro v' wa hoa hga _ _
      obtain ⟨q1', q2', q3'⟩ := PT.snoc l59 (by omega) (by omega) Bc9 hO9 hoa hga
      obtain ⟨o8, c8, hv8⟩ := hoa.slice
      subst hv8
      repeat' (first | (simp (disch := omega) only [push_cast, ↓reduceIte, zA, zG, zB, zH, zI, zC, zJ, zK, zL, zD, zE, zF, zM, zN, zO, zP, zQ, reduceCtorEq, q1', q2', addr_add_eq, Nat.zero_add]) | refine iX ?_ ?_ <;> intro _ | refine And.intro (by omega) ?_ | refine dq ?_)
      refine ⟨rfl, k + 1, by simp (disch := omega) only [push_cast, ↓reduceIte, zA, zG, zB, zH, zI, zC, zJ, zK, zL, zD, zE, zF, zM, zN, zO, zP, zQ, reduceCtorEq], ⟨by omega, ?_⟩, by dsimp only; omega⟩
      rw [hks]
      exact q3'
    · have e0 : k = q.tl.length := by omega
      subst e0
      rw [List.take_length] at P7
      obtain ⟨_, kv, Bc, hOc⟩ := P7
      obtain ⟨z, hzd⟩ : ∃ z : Gx, z = ⟨x.t, x.d, q.tl.map fun t => tmV m t x.abs, .slice ox x.d.length cx, kv⟩ := ⟨_, rfl⟩
      have hzO : GxO w7 w1.heap.size z := by
        rw [hzd]
        refine ⟨?_, own_base hOc (by rw [← hb]; exact (l14.trans l5).size)⟩
        have := own_later hE.1 l37
        rwa [hxdv] at this
      have hzabs : z.abs = grpG m q x.abs := by rw [hzd]; rfl
      have hzk : z.k.length = q.tl.length := by rw [hzd]; simp
      have Bz : Blk w7 b (gxC z).toArray 113 := by rw [hzd]; exact Bc
      clear hzd Bc hOc
      have fz : cellsAt w7 ⟨b, 0, none⟩ 3 = some [.int .i64 z.t, z.dv, z.kv] := Blk.cellsAt (l := gxC z) Bz
      repeat' (first | (simp (disch := omega) only [push_cast, ↓reduceIte, zA, zG, zB, zH, zI, zC, zJ, zK, zL, zD, zE, zF, zM, zN, zO, zP, zQ, reduceCtorEq, fz]) | refine iX ?_ ?_ <;> intro _ | refine And.intro (by omega) ?_ | refine dq ?_)
      have la := later_alloc w7 (.cells #[.int .i64 z.t, z.dv, z.kv] 113)
      have Bl := Blk.new w7 #[.int .i64 z.t, z.dv, z.kv] 113
      have l3a := l37.trans la
      have hOa := hO.later l3a
      refine vAppend_g (r := [z]) hOa (RecS.lit1 (gxC_len z) Bl) (by intro q hq; rw [List.mem_singleton.1 hq]; exact hzO.is.later la) (by simp only [List.length_cons, List.length_nil]; omega) (l3.trans l3a).size ?_
      intro v' wb hob hgb _
      have lb := (l3.trans l3a).appended hOa (Nat.le_refl _) hgb
      repeat' (first | (simp (disch := omega) only [push_cast, ↓reduceIte, zA, zG, zB, zH, zI, zC, zJ, zK, zL, zD, zE, zF, zM, zN, zO, zP, zQ, reduceCtorEq]) | refine iX ?_ ?_ <;> intro _ | refine And.intro (by omega) ?_ | refine dq ?_)
      refine ⟨rfl, (i + 1, v'), by simp (disch := omega) only [push_cast, ↓reduceIte, zA, zG, zB, zH, zI, zC, zJ, zK, zL, zD, zE, zF, zM, zN, zO, zP, zQ, reduceCtorEq], ⟨by dsimp only; omega, lb, os ++ [z], hob, by dsimp only; rw [htk, grsL_keep m q hst, List.map_append, hos, List.map_singleton, hzabs], fun q hq => ?_⟩, by dsimp only; omega⟩
      rcases List.mem_append.1 hq with hq | hq
      · exact ⟨((hG q hq).1.later l3a).grown hOa hgb, (hG q hq).2⟩
      · rw [List.mem_singleton.1 hq]
        exact ⟨(hzO.later la).grown hOa hgb, hzk⟩
  · have e0 : i = es.length := by omega
    subst e0
    rw [List.take_length] at hos
    obtain ⟨oo, oc, rfl, go1, go2⟩ := RecS.slice (OwnR.s hO)
    obtain ⟨_, _, _, _, _, _, _, _, _, _, a7, _⟩ := qdAt (QB w3 l13)
    have hfl : ∀ (w5 : World) (vv : Value) (gs : List Gx), RecS gxC 3 w5 vv gs → (∀ z ∈ gs, GxIs w5 z) → (∃ s, Srt (rglt q.od) s ∧ Stb (rglt q.od) (grsL m q (es.map El.abs)) s ∧ gs.map Gx.abs = if 0 < q.lm then s.take q.lm.toNat else s) → Later w w5 → ∃ vv' e, Value.tuple #[vv, .int .i64 0] = .tuple #[vv', .int .i64 e] ∧ FinR m q w5 vv' e (l.map El.abs) ∧ Later w w5 :=
      fun w5 vv gs h1 h2 h3 h4 => ⟨vv, 0, rfl, .inr ⟨rfl, gs, h1, h2, _, hF, h3⟩, h4⟩
    have hlm := hT.lm
    by_cases hod : q.od = 0
    · have e1 : decide (q.od = 0) = true := decide_eq_true hod
      repeat' (first | (simp (disch := omega) only [push_cast, ↓reduceIte, zA, zG, zB, zH, zI, zC, zJ, zK, zL, zD, zE, zF, zM, zN, zO, zP, zQ, reduceCtorEq, a7, e1, addr_add_eq, Nat.zero_add]) | refine iX ?_ ?_ <;> intro _ | refine And.intro (by omega) ?_ | fail)
      have l5 := later_alloc w3 (.cells #[.int .i64 q.od] 3)
      generalize w3.alloc (.cells #[.int .i64 q.od] 3) = w5 at *
      have l15 := l13.trans l5
      obtain ⟨gs, hgs⟩ : ∃ gs, gs = os := ⟨_, rfl⟩
      have hR : RecS gxC 3 w5 (.slice oo os.length oc) gs := by rw [hgs]; exact (OwnR.s hO).later l5
      have hI : ∀ z ∈ gs, GxIs w5 z := fun z hz => ((hG z (hgs ▸ hz)).1.later l5).is
      have hs1 : Srt (rglt q.od) (gs.map Gx.abs) := by rw [hod]; exact srt_zero _
      have hs2 : Stb (rglt q.od) (grsL m q (es.map El.abs)) (gs.map Gx.abs) := by rw [hgs, hos]; exact Stb.refl _
      obtain ⟨_, _, _, _, _, _, _, _, _, _, _, a8⟩ := qdAt (QB w5 l15)
      have l05 := l01.trans l15
      have hgl : gs.length = os.length := (SlN.len hR).1.symm
      by_cases hl0 : 0 < q.lm
      · have e2 : decide (0 < q.lm) = true := decide_eq_true hl0
        by_cases hmn : (os.length : Int) ≤ q.lm
        · repeat' (first | (simp (disch := omega) only [push_cast, ↓reduceIte, zA, zG, zB, zH, zI, zC, zJ, zK, zL, zD, zE, zF, zM, zN, zO, zP, zQ, reduceCtorEq, a8, e2, addr_add_eq, Nat.zero_add]) | refine iX ?_ ?_ <;> intro _ | refine And.intro (by omega) ?_ | refine dq ?_)
          exact hfl w5 _ gs hR hI ⟨_, hs1, hs2, by rw [if_pos hl0, List.take_of_length_le (by rw [List.length_map, hgl]; omega)]⟩ l05
        · have hR' := RecS.pre gxC_len hR (j := q.lm.toNat) (by omega)
          repeat' (first | (simp (disch := omega) only [push_cast, ↓reduceIte, zA, zG, zB, zH, zI, zC, zJ, zK, zL, zD, zE, zF, zM, zN, zO, zP, zQ, reduceCtorEq, a8, e2, addr_add_eq, Nat.zero_add]) | refine iX ?_ ?_ <;> intro _ | refine And.intro (by omega) ?_ | refine dq ?_)
          exact hfl w5 _ (gs.take q.lm.toNat) hR' (fun z hz => hI z (List.mem_of_mem_take hz)) ⟨_, hs1, hs2, by rw [if_pos hl0, List.map_take]⟩ l05
      · have e2 : decide (0 < q.lm) = false := decide_eq_false hl0
        repeat' (first | (simp (disch := omega) only [push_cast, ↓reduceIte, zA, zG, zB, zH, zI, zC, zJ, zK, zL, zD, zE, zF, zM, zN, zO, zP, zQ, reduceCtorEq, a8, e2, addr_add_eq, Nat.zero_add]) | refine iX ?_ ?_ <;> intro _ | refine And.intro (by omega) ?_ | refine dq ?_)
        exact hfl w5 _ gs hR hI ⟨_, hs1, hs2, (if_neg hl0).symm⟩ l05
    · have e1 : decide (q.od = 0) = false := decide_eq_false hod
      repeat' (first | (simp (disch := omega) only [push_cast, ↓reduceIte, zA, zG, zB, zH, zI, zC, zJ, zK, zL, zD, zE, zF, zM, zN, zO, zP, zQ, reduceCtorEq, a7, e1, addr_add_eq, Nat.zero_add]) | refine iX ?_ ?_ <;> intro _ | refine And.intro (by omega) ?_ | fail)
      have l4 := later_alloc w3 (.cells #[.int .i64 q.od] 3)
      have B4 := Blk.new w3 #[.int .i64 q.od] 3
      generalize w3.alloc (.cells #[.int .i64 q.od] 3) = w4 at *
      generalize w3.heap.size = kb at *
      have hoG : OwnG w4 w1.heap.size (.slice oo os.length oc) (os.map (Ge.mk (kb := kb) (od := q.od))) := by
        have h1 := OwnR.base (hO.later l4) l2.size
        unfold OwnX OwnR at h1
        unfold OwnG OwnR
        rw [List.length_map, List.map_map]
        exact h1
      have hEG : ∀ e ∈ os.map (Ge.mk (kb := kb) (od := q.od)), EG w4 w1.heap.size e := fun e he => by
        obtain ⟨z, hz, rfl⟩ := List.mem_map.1 he
        exact ⟨(hG z hz).1.later l4, B4, hod, by have := (hG z hz).2; have := hT.od; show q.od.natAbs ≤ z.k.length; omega⟩
      refine (gsortAny_c (kb := kb) (od := q.od) w1.heap.size (.slice oo os.length oc) (os.map Ge.mk) w4 hoG hEG (by rw [List.length_map]; omega)).mono ?_
      rintro _ w5 ⟨l', t1, t2, t3, t4, t5⟩
      have l15 : Later w1 w5 := t5 w1 (l13.trans l4) (Nat.le_refl _)
      obtain ⟨gs, hgs⟩ : ∃ gs, gs = l'.map Ge.g := ⟨_, rfl⟩
      have hR : RecS gxC 3 w5 (.slice oo os.length oc) gs := by
        unfold RecS at t3 ⊢
        rw [hgs, List.length_map, List.map_map]
        exact t3
      have hI : ∀ z ∈ gs, GxIs w5 z := fun z hz => by
        rw [hgs] at hz
        obtain ⟨e, he, rfl⟩ := List.mem_map.1 hz
        exact (t4 e he).1.is
      have hab : gs.map Gx.abs = l'.map fun e => e.g.abs := by rw [hgs, List.map_map]; rfl
      have hs1 : Srt (rglt q.od) (gs.map Gx.abs) := by rw [hab]; exact gsrt_abs t1
      have hs2 : Stb (rglt q.od) (grsL m q (es.map El.abs)) (gs.map Gx.abs) := by
        rw [hab, ← hos]
        have := gstb_abs t2
        rw [List.map_map] at this
        exact this
      repeat' (first | (simp (disch := omega) only [push_cast, ↓reduceIte, zA, zG, zB, zH, zI, zC, zJ, zK, zL, zD, zE, zF, zM, zN, zO, zP, zQ, reduceCtorEq]) | refine iX ?_ ?_ <;> intro _ | refine And.intro (by omega) ?_ | fail)
      obtain ⟨_, _, _, _, _, _, _, _, _, _, _, a8⟩ := qdAt (QB w5 l15)
      have l05 := l01.trans l15
      have hgl : gs.length = os.length := (SlN.len hR).1.symm
      by_cases hl0 : 0 < q.lm
      · have e2 : decide (0 < q.lm) = true := decide_eq_true hl0
        by_cases hmn : (os.length : Int) ≤ q.lm
        · repeat' (first | (simp (disch := omega) only [push_cast, ↓reduceIte, zA, zG, zB, zH, zI, zC, zJ, zK, zL, zD, zE, zF, zM, zN, zO, zP, zQ, reduceCtorEq, a8, e2, addr_add_eq, Nat.zero_add]) | refine iX ?_ ?_ <;> intro _ | refine And.intro (by omega) ?_ | refine dq ?_)
          exact hfl w5 _ gs hR hI ⟨_, hs1, hs2, by rw [if_pos hl0, List.take_of_length_le (by rw [List.length_map, hgl]; omega)]⟩ l05
        · have hR' := RecS.pre gxC_len hR (j := q.lm.toNat) (by omega)
          repeat' (first | (simp (disch := omega) only [push_cast, ↓reduceIte, zA, zG, zB, zH, zI, zC, zJ, zK, zL, zD, zE, zF, zM, zN, zO, zP, zQ, reduceCtorEq, a8, e2, addr_add_eq, Nat.zero_add]) | refine iX ?_ ?_ <;> intro _ | refine And.intro (by omega) ?_ | refine dq ?_)
          exact hfl w5 _ (gs.take q.lm.toNat) hR' (fun z hz => hI z (List.mem_of_mem_take hz)) ⟨_, hs1, hs2, by rw [if_pos hl0, List.map_take]⟩ l05
      · have e2 : decide (0 < q.lm) = false := decide_eq_false hl0
        repeat' (first | (simp (disch := omega) only [push_cast, ↓reduceIte, zA, zG, zB, zH, zI, zC, zJ, zK, zL, zD, zE, zF, zM, zN, zO, zP, zQ, reduceCtorEq, a8, e2, addr_add_eq, Nat.zero_add]) | refine iX ?_ ?_ <;> intro _ | refine And.intro (by omega) ?_ | refine dq ?_)
        exact hfl w5 _ gs hR hI ⟨_, hs1, hs2, (if_neg hl0).symm⟩ l05
end Go.Proofs.Ytnofalhkapmcnaa
end
section
set_option linter.unusedSimpArgs false
namespace Go.Proofs.Ytnofalhkapmcnaa
open Go.Vc
set_option maxRecDepth 100000
theorem ints_c (u v : Value) (a b : List Int) (w : World) (hu : Sl w u (a.map i64v)) (hv : Sl w v (b.map i64v)) : FnC Try.prog 68 #[u, v] w fun r w' => r = .bool (decide (a = b)) ∧ Later w w' := by
  obtain ⟨oa, ca, rfl, g1, g2, hu, g3⟩ := hu.openM
  obtain ⟨ob, cb, rfl, k1, k2, hv, k3⟩ := hv.openM
  refine enter68 _ _ ?_
  unfold B68
  by_cases hlen : a.length = b.length
  · repeat' (first | (simp (disch := omega) only [push_cast, ↓reduceIte, zA, zG, zB, zH, zI, zC, zJ, zK, zL, zD, zE, zF, zM, zN, zO, zP, zQ, reduceCtorEq]) | refine iX ?_ ?_ <;> intro _ | refine And.intro (by omega) ?_ | refine dq ?_)
    refine vc_loop W68_0 (fun i : Nat => [(4, .bool false), (5, .int .i64 (i : Int))])
      (fun i w' => i ≤ a.length ∧ Later w w' ∧ a.take i = b.take i) (fun i => a.length - i) 0 (by decide) ?_ ?_ ?_
    · simp (disch := omega) only [push_cast, ↓reduceIte, zA, zG, zB, zH, zI, zC, zJ, zK, zL, zD, zE, zF, zM, zN, zO, zP, zQ, reduceCtorEq]
    · exact ⟨by omega, Later.refl _, by simp⟩
    rintro i uu w0 ⟨hi, hl, he⟩
    by_cases ha : i < a.length
    · have hb : i < b.length := by omega
      obtain ⟨aa, rfl⟩ := hu.some (show 0 < a.length by omega)
      obtain ⟨bb, rfl⟩ := hv.some (show 0 < b.length by omega)
      have c1 := (hu.later hl).atI ha
      have c2 := (hv.later hl).atI hb
      by_cases hab : a[i] = b[i]
      · repeat' (first | (simp (disch := omega) only [push_cast, ↓reduceIte, zA, zG, zB, zH, zI, zC, zJ, zK, zL, zD, zE, zF, zM, zN, zO, zP, zQ, reduceCtorEq, c1, c2, hab]) | refine iX ?_ ?_ <;> intro _ | refine And.intro (by omega) ?_ | refine dq ?_)
        intro w1 hl1
        repeat' (first | (simp (disch := omega) only [push_cast, ↓reduceIte, zA, zG, zB, zH, zI, zC, zJ, zK, zL, zD, zE, zF, zM, zN, zO, zP, zQ, reduceCtorEq]) | refine iX ?_ ?_ <;> intro _ | refine And.intro (by omega) ?_ | refine dq ?_)
        refine ⟨rfl, i + 1, by simp (disch := omega) only [push_cast, ↓reduceIte, zA, zG, zB, zH, zI, zC, zJ, zK, zL, zD, zE, zF, zM, zN, zO, zP, zQ, reduceCtorEq], ⟨by omega, hl.trans hl1, ?_⟩, by dsimp only; omega⟩
        rw [take_snoc a i ha, take_snoc b i hb, he, hab]
      · have hne : a ≠ b := fun e => by subst e; exact hab rfl
        repeat' (first | (simp (disch := omega) only [push_cast, ↓reduceIte, zA, zG, zB, zH, zI, zC, zJ, zK, zL, zD, zE, zF, zM, zN, zO, zP, zQ, reduceCtorEq, c1, c2, hab]) | refine iX ?_ ?_ <;> intro _ | refine And.intro (by omega) ?_ | refine dq ?_)
        intro w1 hl1
        repeat' (first | (simp (disch := omega) only [push_cast, ↓reduceIte, zA, zG, zB, zH, zI, zC, zJ, zK, zL, zD, zE, zF, zM, zN, zO, zP, zQ, reduceCtorEq]) | refine iX ?_ ?_ <;> intro _ | refine And.intro (by omega) ?_ | refine dq ?_)
        simp [hne, hl.trans hl1]
    · have e : i = a.length := by omega
      subst e
      rw [List.take_length, hlen, List.take_length] at he
      repeat' (first | (simp (disch := omega) only [push_cast, ↓reduceIte, zA, zG, zB, zH, zI, zC, zJ, zK, zL, zD, zE, zF, zM, zN, zO, zP, zQ, reduceCtorEq]) | refine iX ?_ ?_ <;> intro _ | refine And.intro (by omega) ?_ | refine dq ?_)
      simp [he, hl]
  · have hne : a ≠ b := fun e => by subst e; exact hlen rfl
    repeat' (first | (simp (disch := omega) only [push_cast, ↓reduceIte, zA, zG, zB, zH, zI, zC, zJ, zK, zL, zD, zE, zF, zM, zN, zO, zP, zQ, reduceCtorEq]) | refine iX ?_ ?_ <;> intro _ | refine And.intro (by omega) ?_ | refine dq ?_)
    simp [hne, Later.refl]
end Go.Proofs.Ytnofalhkapmcnaa
end
