/- CuboidParts holds for every input: rows that are split at the beginning of a bucket and projected, part for part, come to what all come to. -/
import Derived.Test.YthihbgpaoldbjaaRows
import Derived.Test.YthihbgpaoldbjaaPartN
set_option linter.all false
open Nat renaming reduceEqDiff → zA, reducePow → zB, reduceMul → zC, reduceAdd → zD, reduceSub → zE, reduceLeDiff → zF
open Int renaming reduceToNat → zG, reducePow → zH, reduceNeg → zI, reduceMul → zJ, reduceAdd → zK, reduceSub → zL, reduceLT → zM, reduceLE → zN, reduceEq → zO, reduceMod → zP, reduceDiv → zQ
set_option linter.unusedSimpArgs false
namespace Go.Proofs.Ythihbgpaoldbjaa.cuboidParts
open Go.Vc Go.Key Go.Fold Go.Stab Go.Cub Go.ChangeShapes Go.WideShapes Go.ChangeAt Go.RowKit
set_option maxRecDepth 100000
theorem and1023 (n : Int) : ∃ k : Nat, k ≤ 1023 ∧ bitI .and .i64 n 1023 = (k : Int) := by
  have hle : (BitVec.ofInt 64 n &&& BitVec.ofInt 64 1023).toNat ≤ 1023 := by rw [BitVec.toNat_and]; exact Nat.and_le_right
  refine ⟨(BitVec.ofInt 64 n &&& BitVec.ofInt 64 1023).toNat, hle, ?_⟩
  show IntKind.i64.wrap ((BitVec.ofInt 64 n &&& BitVec.ofInt 64 1023).toNat : Int) = _
  exact wrap_i64 (by omega)
theorem cr_of {D A : Nat} {l ls : List El} {p : R → Bool} (h : ls.map El.abs = (l.map El.abs).filter p) (hc : ∀ e ∈ l, Cr D A e) : ∀ e ∈ ls, Cr D A e := fun e he => by
  have : e.abs ∈ (l.map El.abs).filter p := by rw [← h]; exact List.mem_map_of_mem he
  obtain ⟨h1, _⟩ := List.mem_filter.1 this
  obtain ⟨x, hx, hxe⟩ := List.mem_map.1 h1
  have ht : x.t = e.t := congrArg (fun r : R => r.1) hxe
  have := hc x hx
  exact ⟨by rw [← hxe]; exact this.1, by rw [← ht]; exact this.2⟩
theorem len_of {l ls : List El} {p : R → Bool} (h : ls.map El.abs = (l.map El.abs).filter p) : ls.length ≤ l.length := by
  have := congrArg List.length h
  rw [List.length_map] at this
  rw [this]
  exact Nat.le_trans (List.length_filter_le _ _) (by rw [List.length_map]; exact Nat.le_refl _)
set_option maxHeartbeats 1000000 in
theorem law_c (dv mv v uv : Value) (d m u : List ByteArray) (l : List El) (g a b : Int) (w : World) (h : ScIs w dv mv d m) (hl : RecS elC 4 w v l) (hes : ∀ e ∈ l, ElQ w e) (hu : StS w uv u ∧ StZ u) (hg : I64 g) (ha : I64 a) (hb : I64 b) : FnC Try.prog 4 #[scV dv mv, v, .agg #[uv, .int .i64 g, .int .i64 a, .int .i64 b]] w fun r w' => r = .bool true ∧ Later w w' := by
  unfold scV
  obtain ⟨ol, cl, rfl, gl1, gl2⟩ := hl.slice
  refine enter4 _ _ _ ?_
  unfold B4
  obtain ⟨l1, s2, F⟩ := boxSA w dv mv #[uv, .int .i64 g, .int .i64 a, .int .i64 b] 38
  have s1 := World.size_alloc w (.cells #[dv, mv] 24)
  have eca : (Value.agg #[dv, mv]).cells = #[dv, mv] := rfl
  have ecb : (Value.agg #[uv, .int .i64 g, .int .i64 a, .int .i64 b]).cells = #[uv, .int .i64 g, .int .i64 a, .int .i64 b] := rfl
  repeat' (first | (simp (disch := omega) only [push_cast, ↓reduceIte, zA, zG, zB, zH, zI, zC, zJ, zK, zL, zD, zE, zF, zM, zN, zO, zP, zQ, reduceCtorEq, not_true_eq_false, not_false_eq_true, eca, ecb, s1, s2]) | (first | refine vIfE_of ?_ ?_ | refine vIfD_of ?_ ?_ | refine vIfQ_of ?_ ?_ | refine vIfV_of ?_ ?_) <;> intro _ | refine And.intro (by omega) ?_ | fail)
  generalize ((w.alloc (.cells #[dv, mv] 24)).alloc (.cells #[uv, .int .i64 g, .int .i64 a, .int .i64 b] 38)) = w1 at *
  have G : ∀ w', Later w1 w' → Go.Vc.cellsAt w' ⟨w.heap.size, 0, none⟩ 2 = some [dv, mv] ∧ w'.cell? ⟨w.heap.size + 1, 0, none⟩ = some uv ∧ w'.cell? ⟨w.heap.size + 1, 1, none⟩ = some (.int .i64 g) ∧ w'.cell? ⟨w.heap.size + 1, 2, none⟩ = some (.int .i64 a) ∧ w'.cell? ⟨w.heap.size + 1, 3, none⟩ = some (.int .i64 b) := fun w' hl => by
    obtain ⟨q1, B⟩ := F w' hl
    exact ⟨q1, B.cell 0, B.cell 1, B.cell 2, B.cell 3⟩
  clear F eca ecb s1 s2
  obtain ⟨p0, p1, p2, p3, _⟩ := G w1 (Later.refl _)
  repeat' (first | (simp (disch := omega) only [push_cast, ↓reduceIte, zA, zG, zB, zH, zI, zC, zJ, zK, zL, zD, zE, zF, zM, zN, zO, zP, zQ, reduceCtorEq, not_true_eq_false, not_false_eq_true, p0]) | (first | refine vIfE_of ?_ ?_ | refine vIfD_of ?_ ?_ | refine vIfQ_of ?_ ?_ | refine vIfV_of ?_ ?_) <;> intro _ | refine And.intro (by omega) ?_ | refine drawn_q ?_ | fail)
  refine (fits13_c dv mv _ d m l w1 (h.later l1) (hl.later l1) (fun e he => ⟨(hes e he).is.later l1, (hes e he).z⟩)).mono ?_
  rintro _ w2 ⟨rfl, l2⟩
  have l02 := l1.trans l2
  obtain ⟨p0, p1, p2, p3, _⟩ := G w2 l2
  repeat' (first | (simp (disch := omega) only [push_cast, ↓reduceIte, zA, zG, zB, zH, zI, zC, zJ, zK, zL, zD, zE, zF, zM, zN, zO, zP, zQ, reduceCtorEq, not_true_eq_false, not_false_eq_true, p1, addr_add_eq, Nat.zero_add]) | (first | refine vIfE_of ?_ ?_ | refine vIfD_of ?_ ?_ | refine vIfQ_of ?_ ?_ | refine vIfV_of ?_ ?_) <;> intro _ | refine And.intro (by omega) ?_ | refine drawn_q ?_ | fail)
  refine (fits10_c uv u w2 (Sl.later hu.1 l02) hu.2).mono ?_
  rintro _ w0 ⟨rfl, h0⟩
  obtain rfl := h0.symm
  by_cases hF : F13 d m l
  case neg =>
    rw [decide_eq_false hF]
    repeat' (first | (simp (disch := omega) only [push_cast, ↓reduceIte, zA, zG, zB, zH, zI, zC, zJ, zK, zL, zD, zE, zF, zM, zN, zO, zP, zQ, reduceCtorEq, not_true_eq_false, not_false_eq_true]) | (first | refine vIfE_of ?_ ?_ | refine vIfD_of ?_ ?_ | refine vIfQ_of ?_ ?_ | refine vIfV_of ?_ ?_) <;> intro _ | refine And.intro (by omega) ?_ | refine drawn_q ?_ | fail)
    refine (alive14_c w2).mono ?_
    rintro _ w3 ⟨rfl, l3⟩
    repeat' (first | (simp (disch := omega) only [push_cast, ↓reduceIte, zA, zG, zB, zH, zI, zC, zJ, zK, zL, zD, zE, zF, zM, zN, zO, zP, zQ, reduceCtorEq, not_true_eq_false, not_false_eq_true]) | (first | refine vIfE_of ?_ ?_ | refine vIfD_of ?_ ?_ | refine vIfQ_of ?_ ?_ | refine vIfV_of ?_ ?_) <;> intro _ | refine And.intro (by omega) ?_ | refine drawn_q ?_ | fail)
    first | exact ⟨rfl, (l02.trans l3)⟩ | exact (l02.trans l3)
  rw [decide_eq_true hF]
  by_cases hP : F10 u
  case neg =>
    rw [decide_eq_false hP]
    repeat' (first | (simp (disch := omega) only [push_cast, ↓reduceIte, zA, zG, zB, zH, zI, zC, zJ, zK, zL, zD, zE, zF, zM, zN, zO, zP, zQ, reduceCtorEq, not_true_eq_false, not_false_eq_true]) | (first | refine vIfE_of ?_ ?_ | refine vIfD_of ?_ ?_ | refine vIfQ_of ?_ ?_ | refine vIfV_of ?_ ?_) <;> intro _ | refine And.intro (by omega) ?_ | refine drawn_q ?_ | fail)
    refine (alive14_c w2).mono ?_
    rintro _ w3 ⟨rfl, l3⟩
    repeat' (first | (simp (disch := omega) only [push_cast, ↓reduceIte, zA, zG, zB, zH, zI, zC, zJ, zK, zL, zD, zE, zF, zM, zN, zO, zP, zQ, reduceCtorEq, not_true_eq_false, not_false_eq_true]) | (first | refine vIfE_of ?_ ?_ | refine vIfD_of ?_ ?_ | refine vIfQ_of ?_ ?_ | refine vIfV_of ?_ ?_) <;> intro _ | refine And.intro (by omega) ?_ | refine drawn_q ?_ | fail)
    first | exact ⟨rfl, (l02.trans l3)⟩ | exact (l02.trans l3)
  rw [decide_eq_true hP]
  by_cases hg1 : g < 1
  · have hd := decide_eq_true hg1
    repeat' (first | (simp (disch := omega) only [push_cast, ↓reduceIte, zA, zG, zB, zH, zI, zC, zJ, zK, zL, zD, zE, zF, zM, zN, zO, zP, zQ, reduceCtorEq, not_true_eq_false, not_false_eq_true, p2, hd, addr_add_eq, Nat.zero_add]) | (first | refine vIfE_of ?_ ?_ | refine vIfD_of ?_ ?_ | refine vIfQ_of ?_ ?_ | refine vIfV_of ?_ ?_) <;> intro _ | refine And.intro (by omega) ?_ | refine drawn_q ?_ | fail)
    refine (alive14_c w2).mono ?_
    rintro _ w3 ⟨rfl, l3⟩
    repeat' (first | (simp (disch := omega) only [push_cast, ↓reduceIte, zA, zG, zB, zH, zI, zC, zJ, zK, zL, zD, zE, zF, zM, zN, zO, zP, zQ, reduceCtorEq, not_true_eq_false, not_false_eq_true]) | (first | refine vIfE_of ?_ ?_ | refine vIfD_of ?_ ?_ | refine vIfQ_of ?_ ?_ | refine vIfV_of ?_ ?_) <;> intro _ | refine And.intro (by omega) ?_ | refine drawn_q ?_ | fail)
    first | exact ⟨rfl, (l02.trans l3)⟩ | exact (l02.trans l3)
  by_cases hg2 : 1000 < g
  · have hd := decide_eq_false hg1
    have hd2 := decide_eq_true hg2
    repeat' (first | (simp (disch := omega) only [push_cast, ↓reduceIte, zA, zG, zB, zH, zI, zC, zJ, zK, zL, zD, zE, zF, zM, zN, zO, zP, zQ, reduceCtorEq, not_true_eq_false, not_false_eq_true, p2, hd, hd2, addr_add_eq, Nat.zero_add]) | (first | refine vIfE_of ?_ ?_ | refine vIfD_of ?_ ?_ | refine vIfQ_of ?_ ?_ | refine vIfV_of ?_ ?_) <;> intro _ | refine And.intro (by omega) ?_ | refine drawn_q ?_ | fail)
    refine (alive14_c w2).mono ?_
    rintro _ w3 ⟨rfl, l3⟩
    repeat' (first | (simp (disch := omega) only [push_cast, ↓reduceIte, zA, zG, zB, zH, zI, zC, zJ, zK, zL, zD, zE, zF, zM, zN, zO, zP, zQ, reduceCtorEq, not_true_eq_false, not_false_eq_true]) | (first | refine vIfE_of ?_ ?_ | refine vIfD_of ?_ ?_ | refine vIfQ_of ?_ ?_ | refine vIfV_of ?_ ?_) <;> intro _ | refine And.intro (by omega) ?_ | refine drawn_q ?_ | fail)
    first | exact ⟨rfl, (l02.trans l3)⟩ | exact (l02.trans l3)
  have hd := decide_eq_false hg1
  have hd2 := decide_eq_false hg2
  obtain ⟨k, hk, hk2⟩ := and1023 a
  have hgk : 0 ≤ g * k ∧ g * k ≤ 1000 * 1023 := ⟨Int.mul_nonneg (by omega) (by omega), Int.mul_le_mul (by omega) (by omega) (by omega) (by omega)⟩
  repeat' (first | (simp (disch := omega) only [push_cast, ↓reduceIte, zA, zG, zB, zH, zI, zC, zJ, zK, zL, zD, zE, zF, zM, zN, zO, zP, zQ, reduceCtorEq, not_true_eq_false, not_false_eq_true, p2, p3, hd, hd2, hk2, addr_add_eq, Nat.zero_add]) | (first | refine vIfE_of ?_ ?_ | refine vIfD_of ?_ ?_ | refine vIfQ_of ?_ ?_ | refine vIfV_of ?_ ?_) <;> intro _ | refine And.intro (by omega) ?_ | refine drawn_q ?_ | fail)
  obtain ⟨_, _, hn, hs, hr⟩ := hF
  have gd : ∀ e ∈ l, Gd d.length m.length e.abs := fun e he => gd_of (hr e he) hs
  have hcr : ∀ e ∈ l, Cr d.length m.length e := fun e he => ⟨gd e he, (hr e he).2.2.2.2.1, (hr e he).2.2.2.2.2.1⟩
  have hap : Ap d := (List.pairwise_append.1 hs.2.1).1
  have hul : u.length ≤ 1000 := by have := hP.1; omega
  refine (split_c ol _ cl l (g * k) w2 (hl.later l02) (fun e he => ⟨(hes e he).is.later l02, by have := (gd e he).rr.1.dl; have := (gd e he).rr.1.al; omega⟩) (by omega)).mono ?_
  rintro _ w3 ⟨⟨sa, sb, rfl, ⟨qs, hsa, hae, haE⟩, ⟨bs, hsb, hbe, hbE⟩⟩, l3⟩
  have l03 := l02.trans l3
  have hae' : qs.map El.abs = (l.map El.abs).filter (ear (g * k)) := hae
  have hbe' : bs.map El.abs = (l.map El.abs).filter (fun r => !ear (g * k) r) := hbe
  have hac := cr_of hae' hcr
  have hbc := cr_of hbe' hcr
  have hal := len_of hae'
  have hbl := len_of hbe'
  obtain ⟨oa, ca, rfl, _⟩ := RecS.slice hsa
  obtain ⟨ob, cb, rfl, _⟩ := RecS.slice hsb
  have hg6 : I6 g := hg
  obtain ⟨p0, p1, p2, _⟩ := G w3 (l2.trans l3)
  repeat' (first | (simp (disch := omega) only [push_cast, ↓reduceIte, zA, zG, zB, zH, zI, zC, zJ, zK, zL, zD, zE, zF, zM, zN, zO, zP, zQ, reduceCtorEq, not_true_eq_false, not_false_eq_true, p0, p1, p2, addr_add_eq, Nat.zero_add]) | (first | refine vIfE_of ?_ ?_ | refine vIfD_of ?_ ?_ | refine vIfQ_of ?_ ?_ | refine vIfV_of ?_ ?_) <;> intro _ | refine And.intro (by omega) ?_ | refine drawn_q ?_ | fail)
  refine (project_c m.length dv mv _ uv d m u qs g w3 (h.later l03) hap hsa (Sl.later hu.1 l03) (fun e he => ⟨(haE e he).is, hac e he⟩) hul (by omega) hg6).mono ?_
  rintro _ w4 ⟨⟨xv, e, rfl, hx⟩, l4⟩
  have l04 := l03.trans l4
  obtain ⟨p0, p1, p2, _⟩ := G w4 ((l2.trans l3).trans l4)
  repeat' (first | (simp (disch := omega) only [push_cast, ↓reduceIte, zA, zG, zB, zH, zI, zC, zJ, zK, zL, zD, zE, zF, zM, zN, zO, zP, zQ, reduceCtorEq, not_true_eq_false, not_false_eq_true, p0, p1, p2, addr_add_eq, Nat.zero_add]) | (first | refine vIfE_of ?_ ?_ | refine vIfD_of ?_ ?_ | refine vIfQ_of ?_ ?_ | refine vIfV_of ?_ ?_) <;> intro _ | refine And.intro (by omega) ?_ | refine drawn_q ?_ | fail)
  refine (project_c m.length dv mv _ uv d m u bs g w4 (h.later l04) hap (RecS.later hsb l4) (Sl.later hu.1 l04) (fun e he => ⟨(hbE e he).is.later l4, hbc e he⟩) hul (by omega) hg6).mono ?_
  rintro _ w5 ⟨⟨yv, f, rfl, hy⟩, l5⟩
  have l05 := l04.trans l5
  obtain ⟨p0, p1, p2, _⟩ := G w5 (((l2.trans l3).trans l4).trans l5)
  repeat' (first | (simp (disch := omega) only [push_cast, ↓reduceIte, zA, zG, zB, zH, zI, zC, zJ, zK, zL, zD, zE, zF, zM, zN, zO, zP, zQ, reduceCtorEq, not_true_eq_false, not_false_eq_true, p0, p1, p2, addr_add_eq, Nat.zero_add]) | (first | refine vIfE_of ?_ ?_ | refine vIfD_of ?_ ?_ | refine vIfQ_of ?_ ?_ | refine vIfV_of ?_ ?_) <;> intro _ | refine And.intro (by omega) ?_ | refine drawn_q ?_ | fail)
  refine (project_c m.length dv mv _ uv d m u l g w5 (h.later l05) hap (hl.later l05) (Sl.later hu.1 l05) (fun e he => ⟨(hes e he).is.later l05, hcr e he⟩) hul (by omega) hg6).mono ?_
  rintro _ w6 ⟨⟨zv, q, rfl, hz⟩, l6⟩
  have l06 := l05.trans l6
  have hrt : Go.Proofs.Ythihbgpaoldbjaa.Rt g := ⟨by omega, by omega⟩
  cases hsub : sub d 0 u with
  | false =>
    rcases hx with ⟨rfl, rfl, _⟩ | ⟨_, _, h1, _⟩ | ⟨h1, _⟩
    rotate_left
    · rw [hsub] at h1; cases h1
    · rw [hsub] at h1; cases h1
    rcases hy with ⟨rfl, rfl, _⟩ | ⟨_, _, h1, _⟩ | ⟨h1, _⟩
    rotate_left
    · rw [hsub] at h1; cases h1
    · rw [hsub] at h1; cases h1
    rcases hz with ⟨rfl, rfl, _⟩ | ⟨_, _, h1, _⟩ | ⟨h1, _⟩
    rotate_left
    · rw [hsub] at h1; cases h1
    · rw [hsub] at h1; cases h1
    repeat' (first | (simp (disch := omega) only [push_cast, ↓reduceIte, zA, zG, zB, zH, zI, zC, zJ, zK, zL, zD, zE, zF, zM, zN, zO, zP, zQ, reduceCtorEq, not_true_eq_false, not_false_eq_true]) | (first | refine vIfE_of ?_ ?_ | refine vIfD_of ?_ ?_ | refine vIfQ_of ?_ ?_ | refine vIfV_of ?_ ?_) <;> intro _ | refine And.intro (by omega) ?_ | refine drawn_q ?_ | fail)
    refine (alive14_c w6).mono ?_
    rintro _ w7 ⟨rfl, l7⟩
    repeat' (first | (simp (disch := omega) only [push_cast, ↓reduceIte, zA, zG, zB, zH, zI, zC, zJ, zK, zL, zD, zE, zF, zM, zN, zO, zP, zQ, reduceCtorEq, not_true_eq_false, not_false_eq_true]) | (first | refine vIfE_of ?_ ?_ | refine vIfD_of ?_ ?_ | refine vIfQ_of ?_ ?_ | refine vIfV_of ?_ ?_) <;> intro _ | refine And.intro (by omega) ?_ | refine drawn_q ?_ | fail)
    first | exact ⟨rfl, (l06.trans l7)⟩ | exact (l06.trans l7)
  | true =>
  have no : ∀ {r : Value} {e : Int} {X : Prop}, ((e = 141 ∧ r = .slice none 0 0 ∧ sub d 0 u = false) ∨ (e = 111 ∧ r = .slice none 0 0 ∧ sub d 0 u = true ∧ ¬ Go.Proofs.Ythihbgpaoldbjaa.Rt g) ∨ (sub d 0 u = true ∧ Go.Proofs.Ythihbgpaoldbjaa.Rt g ∧ X)) → X := fun h => by
    rcases h with ⟨_, _, h1⟩ | ⟨_, _, _, h1⟩ | ⟨_, _, h1⟩
    · rw [hsub] at h1; cases h1
    · exact absurd hrt h1
    · exact h1
  have hx := no hx
  have hy := no hy
  have hz := no hz
  clear no
  obtain ⟨pa, pb⟩ := prj_parts (b := d) (dims := u) (m := (k : Int)) (show 0 < g by omega) (l.map El.abs)
  rw [hae', pa] at hx
  rw [hbe', pb] at hy
  have hbad := bad_parts (l := (l.map El.abs).map (prj d u g)) (g * k)
  have hlen : ∀ {xs : List El} {p : R → Bool}, F (((l.map El.abs).map (prj d u g)).filter p) (xs.map El.abs) → xs.length ≤ 120 := fun {xs p} hF => by
    have := Cub.F.le hF
    rw [List.length_map] at this
    have := Nat.le_trans this (List.length_filter_le _ _)
    rw [List.length_map, List.length_map] at this
    omega
  generalize (l.map El.abs).map (prj d u g) = P at *
  rcases hz with ⟨rfl, rfl, hzb⟩ | ⟨rfl, zs, hzo, hzF, hzE⟩
  · rcases hx with ⟨rfl, rfl, hxb⟩ | ⟨rfl, xs, hxo, hxF, hxE⟩
    · rcases hy with ⟨rfl, rfl, hyb⟩ | ⟨rfl, ys, hyo, hyF, hyE⟩
      all_goals
        repeat' (first | (simp (disch := omega) only [push_cast, ↓reduceIte, zA, zG, zB, zH, zI, zC, zJ, zK, zL, zD, zE, zF, zM, zN, zO, zP, zQ, reduceCtorEq, not_true_eq_false, not_false_eq_true]) | (first | refine vIfE_of ?_ ?_ | refine vIfD_of ?_ ?_ | refine vIfQ_of ?_ ?_ | refine vIfV_of ?_ ?_) <;> intro _ | refine And.intro (by omega) ?_ | refine drawn_q ?_ | fail)
        refine (alive14_c w6).mono ?_
        rintro _ w7 ⟨rfl, l7⟩
        repeat' (first | (simp (disch := omega) only [push_cast, ↓reduceIte, zA, zG, zB, zH, zI, zC, zJ, zK, zL, zD, zE, zF, zM, zN, zO, zP, zQ, reduceCtorEq, not_true_eq_false, not_false_eq_true]) | (first | refine vIfE_of ?_ ?_ | refine vIfD_of ?_ ?_ | refine vIfQ_of ?_ ?_ | refine vIfV_of ?_ ?_) <;> intro _ | refine And.intro (by omega) ?_ | refine drawn_q ?_ | fail)
        first | exact ⟨rfl, (l06.trans l7)⟩ | exact (l06.trans l7)
    · rcases hy with ⟨rfl, rfl, hyb⟩ | ⟨rfl, ys, hyo, hyF, hyE⟩
      · repeat' (first | (simp (disch := omega) only [push_cast, ↓reduceIte, zA, zG, zB, zH, zI, zC, zJ, zK, zL, zD, zE, zF, zM, zN, zO, zP, zQ, reduceCtorEq, not_true_eq_false, not_false_eq_true]) | (first | refine vIfE_of ?_ ?_ | refine vIfD_of ?_ ?_ | refine vIfQ_of ?_ ?_ | refine vIfV_of ?_ ?_) <;> intro _ | refine And.intro (by omega) ?_ | refine drawn_q ?_ | fail)
        refine (alive14_c w6).mono ?_
        rintro _ w7 ⟨rfl, l7⟩
        repeat' (first | (simp (disch := omega) only [push_cast, ↓reduceIte, zA, zG, zB, zH, zI, zC, zJ, zK, zL, zD, zE, zF, zM, zN, zO, zP, zQ, reduceCtorEq, not_true_eq_false, not_false_eq_true]) | (first | refine vIfE_of ?_ ?_ | refine vIfD_of ?_ ?_ | refine vIfQ_of ?_ ?_ | refine vIfV_of ?_ ?_) <;> intro _ | refine And.intro (by omega) ?_ | refine drawn_q ?_ | fail)
        first | exact ⟨rfl, (l06.trans l7)⟩ | exact (l06.trans l7)
      · exact ((hbad.1 hzb).elim hxF.ok hyF.ok).elim
  · rcases hx with ⟨rfl, rfl, hxb⟩ | ⟨rfl, xs, hxo, hxF, hxE⟩
    · exact (hzF.ok (hbad.2 (.inl hxb))).elim
    rcases hy with ⟨rfl, rfl, hyb⟩ | ⟨rfl, ys, hyo, hyF, hyE⟩
    · exact (hzF.ok (hbad.2 (.inr hyb))).elim
    have hall := Cub.F.parts _ hxF hyF
    have heq : xs.map El.abs ++ ys.map El.abs = zs.map El.abs := (Option.some.inj (Res.one (o := some (xs.map El.abs ++ ys.map El.abs)) (o' := some (zs.map El.abs)) (Stb.refl _) hall hzF)).symm
    have hxl := hlen hxF
    have hyl := hlen hyF
    have hxs := RecS.later (OwnR.s hxo) (l5.trans l6)
    have hys := RecS.later (OwnR.s hyo) l6
    have hxi : ∀ e ∈ xs, EIs w6 e := fun e he => (hxE e he).1.is.later (l5.trans l6)
    have hyi : ∀ e ∈ ys, EIs w6 e := fun e he => (hyE e he).1.is.later l6
    obtain ⟨ox, cx, rfl, _⟩ := RecS.slice hxs
    obtain ⟨oy, cy, rfl, _⟩ := RecS.slice hys
    obtain ⟨oz, cz, rfl, _⟩ := RecS.slice (OwnR.s hzo)
    repeat' (first | (simp (disch := omega) only [push_cast, ↓reduceIte, zA, zG, zB, zH, zI, zC, zJ, zK, zL, zD, zE, zF, zM, zN, zO, zP, zQ, reduceCtorEq, not_true_eq_false, not_false_eq_true]) | (first | refine vIfE_of ?_ ?_ | refine vIfD_of ?_ ?_ | refine vIfQ_of ?_ ?_ | refine vIfV_of ?_ ?_) <;> intro _ | refine And.intro (by omega) ?_ | refine drawn_q ?_ | fail)
    have lA := later_alloc w6 (.cells #[] 35)
    have own0 : OwnE (w6.alloc (.cells #[] 35)) w6.heap.size (.slice (some ⟨w6.heap.size, 0, none⟩) 0 0) [] := OwnR.lit0 w6 _ (Nat.le_refl _)
    generalize w6.alloc (.cells #[] 35) = w7 at *
    refine vAppend_e (r := xs) own0 (RecS.later hxs lA) (fun e he => (hxi e he).later lA) (by simp only [List.length_nil]; omega) lA.size ?_
    intro v8 w8 ho8 hg8 _
    have l8 := lA.appended own0 (Nat.le_refl _) hg8
    rw [List.nil_append] at ho8
    obtain ⟨o8, c8, rfl, _⟩ := RecS.slice (OwnR.s ho8)
    repeat' (first | (simp (disch := omega) only [push_cast, ↓reduceIte, zA, zG, zB, zH, zI, zC, zJ, zK, zL, zD, zE, zF, zM, zN, zO, zP, zQ, reduceCtorEq, not_true_eq_false, not_false_eq_true]) | (first | refine vIfE_of ?_ ?_ | refine vIfD_of ?_ ?_ | refine vIfQ_of ?_ ?_ | refine vIfV_of ?_ ?_) <;> intro _ | refine And.intro (by omega) ?_ | refine drawn_q ?_ | fail)
    refine vAppend_e (r := ys) ho8 (RecS.later hys l8) (fun e he => (hyi e he).later l8) (by omega) l8.size ?_
    intro v9 w9 ho9 hg9 _
    have l9 := l8.appended ho8 (Nat.le_refl _) hg9
    have l09 := l06.trans l9
    obtain ⟨o9, c9, rfl, _⟩ := RecS.slice (OwnR.s ho9)
    repeat' (first | (simp (disch := omega) only [push_cast, ↓reduceIte, zA, zG, zB, zH, zI, zC, zJ, zK, zL, zD, zE, zF, zM, zN, zO, zP, zQ, reduceCtorEq, not_true_eq_false, not_false_eq_true]) | (first | refine vIfE_of ?_ ?_ | refine vIfD_of ?_ ?_ | refine vIfQ_of ?_ ?_ | refine vIfV_of ?_ ?_) <;> intro _ | refine And.intro (by omega) ?_ | refine drawn_q ?_ | fail)
    refine (dsame_c _ _ (xs ++ ys) zs w9 (OwnR.s ho9) (RecS.later (OwnR.s hzo) l9) (fun e he => (List.mem_append.1 he).elim (fun he => (hxi e he).later l9) (fun he => (hyi e he).later l9)) (fun e he => (hzE e he).1.is.later l9)).mono ?_
    rintro _ w10 ⟨⟨t, rfl, ht⟩, l10⟩
    obtain rfl := ht.2 (by rw [List.map_append]; exact heq)
    repeat' (first | (simp (disch := omega) only [push_cast, ↓reduceIte, zA, zG, zB, zH, zI, zC, zJ, zK, zL, zD, zE, zF, zM, zN, zO, zP, zQ, reduceCtorEq, not_true_eq_false, not_false_eq_true]) | (first | refine vIfE_of ?_ ?_ | refine vIfD_of ?_ ?_ | refine vIfQ_of ?_ ?_ | refine vIfV_of ?_ ?_) <;> intro _ | refine And.intro (by omega) ?_ | refine drawn_q ?_ | fail)
    refine (alive14_c w10).mono ?_
    rintro _ w11 ⟨rfl, l11⟩
    repeat' (first | (simp (disch := omega) only [push_cast, ↓reduceIte, zA, zG, zB, zH, zI, zC, zJ, zK, zL, zD, zE, zF, zM, zN, zO, zP, zQ, reduceCtorEq, not_true_eq_false, not_false_eq_true]) | (first | refine vIfE_of ?_ ?_ | refine vIfD_of ?_ ?_ | refine vIfQ_of ?_ ?_ | refine vIfV_of ?_ ?_) <;> intro _ | refine And.intro (by omega) ?_ | refine drawn_q ?_ | fail)
    first | exact ⟨rfl, ((l09.trans l10).trans l11)⟩ | exact ((l09.trans l10).trans l11)
theorem own : ownKnob Try.prog.godebug = none := by kernel_rfl
theorem lifted (os : Os) (started : os.Started) (H : Type) (enc : TypeId × Value → H) :
    ReturnsInHanded {} Try.checked os 4 .any (Rows.cuboidPartsSpec.pre6 enc Try.prog Try.f4 Rows.cuboidPartsRow.domain false) (Rows.cuboidPartsSpec.post enc Try.prog Try.f4 false true false false) := by
  refine lifted_later (C := Try.checked) own started (by kernel_rfl) Try.func4 hb4
    (ChangeSpec.witness6 (enc := enc) (C := Try.checked) false ⟨#[], #[.agg #[.slice none 0 0, .slice none 0 0], .slice none 0 0, .agg #[.slice none 0 0, .int .i64 0, .int .i64 0, .int .i64 0]], []⟩ 4 (by kernel_rfl) (by kernel_rfl) (by kernel_rfl) (by kernel_rfl))
    (by kernel_rfl) (list_all (by kernel_rfl)) (by kernel_rfl) Try.underlying4 rfl ?_ ?_
  · intro ds h
    have h : ds.length = 3 := h
    match ds, h with
    | [_, _, _], _ => rfl
  · intro W base args ds p hval0 hA0
    have hval : ∀ (j : Nat) t v, Try.f4.params[j]? = some t → args[j]? = some v → Value.okWide Try.prog W .any base t v := hval0
    have hA : DataW.TrodAll enc Try.prog W 0 (fun _ => true) true Try.f4.params.toList args.toList ds p := hA0
    rw [Try.params4] at hA hval
    obtain ⟨v0, vs0, d0, ds0, p0, q0, hargs, rfl, rfl, h0, r0⟩ := trodAll_cons hA
    obtain ⟨v1, vs1, d1, ds1, p1, q1, rfl, rfl, rfl, h1, r1⟩ := trodAll_cons r0
    obtain ⟨v2, vs2, d2, ds2, p2, q2, rfl, rfl, rfl, h2, r2⟩ := trodAll_cons r1
    obtain ⟨rfl, rfl, rfl⟩ := trodAll_nil r2
    obtain rfl : args = #[v0, v1, v2] := by cases args; simp_all
    obtain ⟨a0, w0⟩ := open_schema (hval 0 24 v0 rfl rfl) h0
    obtain ⟨a1, w1⟩ := open_rowsQ (hval 1 25 v1 rfl rfl) h1
    obtain ⟨a2, w2⟩ := open_where (hval 2 38 v2 rfl rfl) h2
    exact (by obtain ⟨rfl, hs⟩ := w0; obtain ⟨rfl, hu, hg, ha, hb⟩ := w2; exact law_c _ _ _ _ _ _ _ _ _ _ _ _ hs w1.1 w1.2 hu hg ha hb)
theorem over : Rows.cuboidPartsRow.holds Try.pinned (OpenSpec.ofChange Rows.cuboidPartsSpec) :=
  OpenClaim.holds_of_wide 4 Try.f4 rfl rfl rfl rfl rfl rfl rfl ⟨rfl, rfl, rfl, rfl, rfl⟩ rfl rfl rfl rfl rfl (by kernel_rfl) Try.func4 (by kernel_rfl)
    (of_decide_eq_true (by kernel_rfl)) (by unfold Func.isWrapper; first | (rw [if_pos (by decide +kernel)]; kernel_rfl) | (rw [if_neg (by decide +kernel)]; exact ⟨rfl, rfl⟩))
    (fun os started H enc _ => lifted os started H enc)
/-- The statement. -/
theorem proved : Rows.CuboidPartsSaid :=
  over
end Go.Proofs.Ythihbgpaoldbjaa.cuboidParts
