/- CuboidTells holds for every input: rows in any cuboid, its schema, those of any stretch of time, and those below any time, are as the document says, or the error. -/
import Derived.Test.YthihbgpaoldbjaaRows
import Derived.Test.YthihbgpaoldbjaaPartN
set_option linter.all false
open Nat renaming reduceEqDiff → zA, reducePow → zB, reduceMul → zC, reduceAdd → zD, reduceSub → zE, reduceLeDiff → zF
open Int renaming reduceToNat → zG, reducePow → zH, reduceNeg → zI, reduceMul → zJ, reduceAdd → zK, reduceSub → zL, reduceLT → zM, reduceLE → zN, reduceEq → zO, reduceMod → zP, reduceDiv → zQ
set_option linter.unusedSimpArgs false
namespace Go.Proofs.Ythihbgpaoldbjaa.cuboidTells
open Go.Vc Go.Key Go.Fold Go.Stab Go.Cub Go.ChangeShapes Go.WideShapes Go.ChangeAt Go.RowKit
set_option maxRecDepth 100000
theorem flt_len (p : R → Bool) : ∀ l : List R, l.length = (l.filter p).length + (l.filter fun x => !p x).length
  | [] => rfl
  | x :: l => by
    have ih := flt_len p l
    rw [List.filter_cons, List.filter_cons]
    cases hp : p x <;> simp <;> omega
theorem prj_one {D A B : Nat} {w w' : World} {x y : Value} {d u : List ByteArray} {g : Int} {l : List R} (hx : PrjR x d u g (fun v e => FoldR D A w B v e l)) (hy : PrjR y d u g (fun v e => FoldD D A w' v e l)) :
    ∃ xv yv e, x = .tuple #[xv, .int .i64 e] ∧ y = .tuple #[yv, .int .i64 e] ∧ ∃ xs ys : List El, RecS elC 4 w xv xs ∧ RecS elC 4 w' yv ys ∧ (∀ z ∈ xs, EIs w z) ∧ (∀ z ∈ ys, EIs w' z) ∧ xs.map El.abs = ys.map El.abs := by
  obtain ⟨xv, e, rfl, hx⟩ := hx
  obtain ⟨yv, f, rfl, hy⟩ := hy
  have nils : ∃ xs ys : List El, RecS elC 4 w (.slice none 0 0) xs ∧ RecS elC 4 w' (.slice none 0 0) ys ∧ (∀ z ∈ xs, EIs w z) ∧ (∀ z ∈ ys, EIs w' z) ∧ xs.map El.abs = ys.map El.abs := ⟨[], [], RecS.nil _, RecS.nil _, by simp, by simp, rfl⟩
  rcases hx with ⟨rfl, rfl, h1⟩ | ⟨rfl, rfl, h1, h2⟩ | ⟨h1, h2, hx⟩ <;> rcases hy with ⟨rfl, rfl, g1⟩ | ⟨rfl, rfl, g1, g2⟩ | ⟨g1, g2, hy⟩
  · exact ⟨_, _, _, rfl, rfl, nils⟩
  · rw [h1] at g1; cases g1
  · rw [h1] at g1; cases g1
  · rw [h1] at g1; cases g1
  · exact ⟨_, _, _, rfl, rfl, nils⟩
  · exact absurd g2 h2
  · rw [h1] at g1; cases g1
  · exact absurd h2 g2
  · obtain ⟨rfl, h⟩ := fold_one hx hy
    exact ⟨_, _, _, rfl, rfl, h⟩
theorem sc_one {w w' : World} {x y : Value} {d m u : List ByteArray} (hx : ScR w x d m u) (hy : ScR w' y d m u) : ∃ dx mx dy my d' m' e, x = .tuple #[scV dx mx, .int .i64 e] ∧ y = .tuple #[scV dy my, .int .i64 e] ∧ StS w dx d' ∧ StS w mx m' ∧ StS w' dy d' ∧ StS w' my m' := by
  obtain ⟨dx, mx, d1, m1, e, rfl, h1, h2, h⟩ := hx
  obtain ⟨dy, my, d2, m2, f, rfl, g1, g2, g⟩ := hy
  rcases h with ⟨a, rfl, rfl, rfl⟩ | ⟨a, rfl, rfl, rfl⟩ <;> rcases g with ⟨b, rfl, rfl, rfl⟩ | ⟨b, rfl, rfl, rfl⟩
  · exact ⟨_, _, _, _, _, _, _, rfl, rfl, h1, h2, g1, g2⟩
  · rw [a] at b; cases b
  · rw [a] at b; cases b
  · exact ⟨_, _, _, _, _, _, _, rfl, rfl, h1, h2, g1, g2⟩
def InV (l : List El) (p : R → Bool) (v : Value) (w : World) : Prop := ∃ ls, RecS elC 4 w v ls ∧ ls.map El.abs = (l.map El.abs).filter p ∧ ∀ e ∈ ls, EIs w e
theorem stb_in (w0 : World) (l : List El) (p : R → Bool) : Stb w0 (InV l p) := fun _ _ _ _ hl ⟨ls, h1, h2, h3⟩ => ⟨ls, RecS.later h1 hl, h2, fun e he => (h3 e he).later hl⟩
set_option maxHeartbeats 1000000 in
theorem law_c (dv mv v uv : Value) (d m u : List ByteArray) (l : List El) (g a b : Int) (w : World) (h : ScIs w dv mv d m) (hl : RecS elC 4 w v l) (hes : ∀ e ∈ l, ElQ w e) (hu : StS w uv u ∧ StZ u) (hg : I64 g) (ha : I64 a) (hb : I64 b) : FnC Try.prog 5 #[scV dv mv, v, .agg #[uv, .int .i64 g, .int .i64 a, .int .i64 b]] w fun r w' => r = .bool true ∧ Later w w' := by
  unfold scV
  obtain ⟨ol, cl, rfl, gl1, gl2⟩ := hl.slice
  refine enter5 _ _ _ ?_
  unfold B5
  obtain ⟨l1, s2, F⟩ := boxSA w dv mv #[uv, .int .i64 g, .int .i64 a, .int .i64 b] 38
  have s1 := World.size_alloc w (.cells #[dv, mv] 24)
  have eca : (Value.agg #[dv, mv]).cells = #[dv, mv] := rfl
  have ecb : (Value.agg #[uv, .int .i64 g, .int .i64 a, .int .i64 b]).cells = #[uv, .int .i64 g, .int .i64 a, .int .i64 b] := rfl
  repeat' (first | (simp (disch := omega) only [push_cast, ↓reduceIte, zA, zG, zB, zH, zI, zC, zJ, zK, zL, zD, zE, zF, zM, zN, zO, zP, zQ, reduceCtorEq, not_true_eq_false, not_false_eq_true, eca, ecb, s1, s2]) | (first | refine vIfE_of ?_ ?_ | refine vIfD_of ?_ ?_ | refine vIfQ_of ?_ ?_ | refine vIfV_of ?_ ?_) <;> intro _ | refine And.intro (by omega) ?_ | fail)
  generalize ((w.alloc (.cells #[dv, mv] 24)).alloc (.cells #[uv, .int .i64 g, .int .i64 a, .int .i64 b] 38)) = w1 at *
  have G : ∀ w', Later w1 w' → Go.Vc.cellsAt w' ⟨w.heap.size, 0, none⟩ 2 = some [dv, mv] ∧ w'.cell? ⟨w.heap.size + 1, 0, none⟩ = some uv ∧ w'.cell? ⟨w.heap.size + 1, 1, none⟩ = some (.int .i64 g) ∧ w'.cell? ⟨w.heap.size + 1, 2, none⟩ = some (.int .i64 a) ∧ w'.cell? ⟨w.heap.size + 1, 3, none⟩ = some (.int .i64 b) := fun w' hl => by
    obtain ⟨q1, B⟩ := F w' hl
    exact ⟨q1, B.cell 0, B.cell 1, B.cell 2, B.cell 3⟩
  clear F eca ecb s1 s2
  obtain ⟨p0, p1, p2, p3, p4⟩ := G w1 (Later.refl _)
  repeat' (first | (simp (disch := omega) only [push_cast, ↓reduceIte, zA, zG, zB, zH, zI, zC, zJ, zK, zL, zD, zE, zF, zM, zN, zO, zP, zQ, reduceCtorEq, not_true_eq_false, not_false_eq_true, p0]) | (first | refine vIfE_of ?_ ?_ | refine vIfD_of ?_ ?_ | refine vIfQ_of ?_ ?_ | refine vIfV_of ?_ ?_) <;> intro _ | refine And.intro (by omega) ?_ | refine drawn_q ?_ | fail)
  refine (fits13_c dv mv _ d m l w1 (h.later l1) (hl.later l1) (fun e he => ⟨(hes e he).is.later l1, (hes e he).z⟩)).mono ?_
  rintro _ w2 ⟨rfl, l2⟩
  have l02 := l1.trans l2
  obtain ⟨p0, p1, p2, p3, p4⟩ := G w2 l2
  repeat' (first | (simp (disch := omega) only [push_cast, ↓reduceIte, zA, zG, zB, zH, zI, zC, zJ, zK, zL, zD, zE, zF, zM, zN, zO, zP, zQ, reduceCtorEq, not_true_eq_false, not_false_eq_true, p1, addr_add_eq, Nat.zero_add]) | (first | refine vIfE_of ?_ ?_ | refine vIfD_of ?_ ?_ | refine vIfQ_of ?_ ?_ | refine vIfV_of ?_ ?_) <;> intro _ | refine And.intro (by omega) ?_ | refine drawn_q ?_ | fail)
  refine (fits10_c uv u w2 (Sl.later hu.1 l02) hu.2).mono ?_
  rintro _ w0 ⟨rfl, h0⟩
  obtain rfl := h0.symm
  by_cases hF : F13 d m l
  case neg =>
    rw [decide_eq_false hF]
    repeat' (first | (simp (disch := omega) only [push_cast, ↓reduceIte, zA, zG, zB, zH, zI, zC, zJ, zK, zL, zD, zE, zF, zM, zN, zO, zP, zQ, reduceCtorEq, not_true_eq_false, not_false_eq_true]) | (first | refine vIfE_of ?_ ?_ | refine vIfD_of ?_ ?_ | refine vIfQ_of ?_ ?_ | refine vIfV_of ?_ ?_) <;> intro _ | refine And.intro (by omega) ?_ | refine drawn_q ?_ | fail)
    refine (alive14_c w2).mono ?_
    rintro _ w3 ⟨rfl, l3⟩
    repeat' (first | (simp (disch := omega) only [push_cast, ↓reduceIte, zA, zG, zB, zH, zI, zC, zJ, zK, zL, zD, zE, zF, zM, zN, zO, zP, zQ, reduceCtorEq, not_true_eq_false, not_false_eq_true]) | (first | refine vIfE_of ?_ ?_ | refine vIfD_of ?_ ?_ | refine vIfQ_of ?_ ?_ | refine vIfV_of ?_ ?_) <;> intro _ | refine And.intro (by omega) ?_ | refine drawn_q ?_ | fail)
    first | exact ⟨rfl, (l02.trans l3)⟩ | exact (l02.trans l3)
  rw [decide_eq_true hF]
  by_cases hP : F10 u
  case neg =>
    rw [decide_eq_false hP]
    repeat' (first | (simp (disch := omega) only [push_cast, ↓reduceIte, zA, zG, zB, zH, zI, zC, zJ, zK, zL, zD, zE, zF, zM, zN, zO, zP, zQ, reduceCtorEq, not_true_eq_false, not_false_eq_true]) | (first | refine vIfE_of ?_ ?_ | refine vIfD_of ?_ ?_ | refine vIfQ_of ?_ ?_ | refine vIfV_of ?_ ?_) <;> intro _ | refine And.intro (by omega) ?_ | refine drawn_q ?_ | fail)
    refine (alive14_c w2).mono ?_
    rintro _ w3 ⟨rfl, l3⟩
    repeat' (first | (simp (disch := omega) only [push_cast, ↓reduceIte, zA, zG, zB, zH, zI, zC, zJ, zK, zL, zD, zE, zF, zM, zN, zO, zP, zQ, reduceCtorEq, not_true_eq_false, not_false_eq_true]) | (first | refine vIfE_of ?_ ?_ | refine vIfD_of ?_ ?_ | refine vIfQ_of ?_ ?_ | refine vIfV_of ?_ ?_) <;> intro _ | refine And.intro (by omega) ?_ | refine drawn_q ?_ | fail)
    first | exact ⟨rfl, (l02.trans l3)⟩ | exact (l02.trans l3)
  rw [decide_eq_true hP]
  obtain ⟨_, _, hn, hs, hr⟩ := hF
  have gd : ∀ e ∈ l, Gd d.length m.length e.abs := fun e he => gd_of (hr e he) hs
  have hcr : ∀ e ∈ l, Cr d.length m.length e := fun e he => ⟨gd e he, (hr e he).2.2.2.2.1, (hr e he).2.2.2.2.2.1⟩
  have hap : Ap d := (List.pairwise_append.1 hs.2.1).1
  have hul : u.length ≤ 1000 := by have := hP.1; omega
  have hml : m.length ≤ 1000 := by have := hs.2.2.2.2; omega
  have hcp : ∀ w', Later w w' → ∀ e ∈ l, EIs w' e ∧ e.d.length ≤ 1000000 ∧ e.a.length ≤ 1000000 := fun w' hl e he => ⟨(hes e he).is.later hl, by have := (gd e he).rr.1.dl; omega, by have := (gd e he).rr.1.al; omega⟩
  have hg6 : I6 g := hg
  repeat' (first | (simp (disch := omega) only [push_cast, ↓reduceIte, zA, zG, zB, zH, zI, zC, zJ, zK, zL, zD, zE, zF, zM, zN, zO, zP, zQ, reduceCtorEq, not_true_eq_false, not_false_eq_true, p0, p1, p2, addr_add_eq, Nat.zero_add]) | (first | refine vIfE_of ?_ ?_ | refine vIfD_of ?_ ?_ | refine vIfQ_of ?_ ?_ | refine vIfV_of ?_ ?_) <;> intro _ | refine And.intro (by omega) ?_ | refine drawn_q ?_ | fail)
  refine (project_c m.length dv mv _ uv d m u l g w2 (h.later l02) hap (hl.later l02) (Sl.later hu.1 l02) (fun e he => ⟨(hes e he).is.later l02, hcr e he⟩) hul (by omega) hg6).mono ?_
  rintro xr w3 ⟨hx, l3⟩
  have l03 := l02.trans l3
  obtain ⟨xv, e, rfl, hx'⟩ := hx
  have hx : PrjR (.tuple #[xv, .int .i64 e]) d u g (fun vv e => FoldR u.length m.length w3 w2.heap.size vv e ((l.map El.abs).map (prj d u g))) := ⟨_, _, rfl, hx'⟩
  clear hx'
  obtain ⟨p0, p1, p2, p3, p4⟩ := G w3 (l2.trans l3)
  repeat' (first | (simp (disch := omega) only [push_cast, ↓reduceIte, zA, zG, zB, zH, zI, zC, zJ, zK, zL, zD, zE, zF, zM, zN, zO, zP, zQ, reduceCtorEq, not_true_eq_false, not_false_eq_true, p0, p1, p2, addr_add_eq, Nat.zero_add]) | (first | refine vIfE_of ?_ ?_ | refine vIfD_of ?_ ?_ | refine vIfQ_of ?_ ?_ | refine vIfV_of ?_ ?_) <;> intro _ | refine And.intro (by omega) ?_ | refine drawn_q ?_ | fail)
  refine (dproject_c m.length dv mv _ uv d m u l g w3 (h.later l03) (hl.later l03) (Sl.later hu.1 l03) (fun e he => ⟨(hes e he).is.later l03, hcr e he⟩) hul (by omega) hg6).mono ?_
  rintro yr w4 ⟨hy, l4⟩
  have l04 := l03.trans l4
  obtain ⟨xv', yv, e', hxe, rfl, xs, ys, hxs, hys, hex, hey, hxy⟩ := prj_one hx hy
  simp only [Value.tuple.injEq] at hxe
  obtain ⟨rfl, rfl⟩ : xv = xv' ∧ e = e' := by simpa using hxe
  clear hx hy hxe
  obtain ⟨ox, cx, rfl, _⟩ := RecS.slice hxs
  obtain ⟨oy, cy, rfl, _⟩ := RecS.slice hys
  obtain ⟨p0, p1, p2, p3, p4⟩ := G w4 ((l2.trans l3).trans l4)
  repeat' (first | (simp (disch := omega) only [push_cast, ↓reduceIte, zA, zG, zB, zH, zI, zC, zJ, zK, zL, zD, zE, zF, zM, zN, zO, zP, zQ, reduceCtorEq, not_true_eq_false, not_false_eq_true, p0, p1, addr_add_eq, Nat.zero_add]) | (first | refine vIfE_of ?_ ?_ | refine vIfD_of ?_ ?_ | refine vIfQ_of ?_ ?_ | refine vIfV_of ?_ ?_) <;> intro _ | refine And.intro (by omega) ?_ | refine drawn_q ?_ | fail)
  refine (cschema_c dv mv uv d m u w4 (h.later l04) hap (Sl.later hu.1 l04) hul hml).mono ?_
  rintro ar w5 ⟨hA, l5⟩
  obtain ⟨dx, mx, d1, m1, f, rfl, hA1, hA2, hA3⟩ := hA
  have hA : ScR w5 (.tuple #[scV dx mx, .int .i64 f]) d m u := ⟨_, _, _, _, _, rfl, hA1, hA2, hA3⟩
  have l05 := l04.trans l5
  unfold scV
  repeat' (first | (simp (disch := omega) only [push_cast, ↓reduceIte, zA, zG, zB, zH, zI, zC, zJ, zK, zL, zD, zE, zF, zM, zN, zO, zP, zQ, reduceCtorEq, not_true_eq_false, not_false_eq_true]) | (first | refine vIfE_of ?_ ?_ | refine vIfD_of ?_ ?_ | refine vIfQ_of ?_ ?_ | refine vIfV_of ?_ ?_) <;> intro _ | refine And.intro (by omega) ?_ | refine drawn_q ?_ | fail)
  refine vStore_new rfl rfl (by intro u hu; obtain ⟨od, cd, rfl, _⟩ := StS.opn hA1; obtain ⟨om, cm, rfl, _⟩ := StS.opn hA2; exact sl2_one _ _ _ _ _ _ u (by simpa using hu)) ?_
  clear hA1 hA2 hA3 d1 m1
  have lA := later_alloc w5 (.cells #[dx, mx] 24)
  have BA := Blk.new w5 #[dx, mx] 24
  generalize w5.alloc (.cells #[dx, mx] 24) = w6 at *
  generalize w5.heap.size = ka at *
  have l06 := l05.trans lA
  have l46 := l5.trans lA
  obtain ⟨p0, p1, p2, p3, p4⟩ := G w6 (((l2.trans l3).trans l4).trans l46)
  repeat' (first | (simp (disch := omega) only [push_cast, ↓reduceIte, zA, zG, zB, zH, zI, zC, zJ, zK, zL, zD, zE, zF, zM, zN, zO, zP, zQ, reduceCtorEq, not_true_eq_false, not_false_eq_true, p0, p1, addr_add_eq, Nat.zero_add]) | (first | refine vIfE_of ?_ ?_ | refine vIfD_of ?_ ?_ | refine vIfQ_of ?_ ?_ | refine vIfV_of ?_ ?_) <;> intro _ | refine And.intro (by omega) ?_ | refine drawn_q ?_ | fail)
  refine (dcschema_c dv mv uv d m u w6 (h.later l06) (Sl.later hu.1 l06)).mono ?_
  rintro br w7 ⟨hB, l7⟩
  obtain ⟨dx', mx', dy, my, d', m', f', hxe, rfl, sA1, sA2, sB1, sB2⟩ := sc_one hA hB
  unfold scV at hxe
  simp only [Value.tuple.injEq] at hxe
  obtain ⟨⟨rfl, rfl⟩, rfl⟩ : (dx = dx' ∧ mx = mx') ∧ f = f' := by simpa using hxe
  clear hA hB hxe
  have l07 := l06.trans l7
  unfold scV
  repeat' (first | (simp (disch := omega) only [push_cast, ↓reduceIte, zA, zG, zB, zH, zI, zC, zJ, zK, zL, zD, zE, zF, zM, zN, zO, zP, zQ, reduceCtorEq, not_true_eq_false, not_false_eq_true]) | (first | refine vIfE_of ?_ ?_ | refine vIfD_of ?_ ?_ | refine vIfQ_of ?_ ?_ | refine vIfV_of ?_ ?_) <;> intro _ | refine And.intro (by omega) ?_ | refine drawn_q ?_ | fail)
  refine vStore_new rfl rfl (by intro u hu; obtain ⟨od, cd, rfl, _⟩ := StS.opn sB1; obtain ⟨om, cm, rfl, _⟩ := StS.opn sB2; exact sl2_one _ _ _ _ _ _ u (by simpa using hu)) ?_
  have lB := later_alloc w7 (.cells #[dy, my] 24)
  have BB := Blk.new w7 #[dy, my] 24
  generalize w7.alloc (.cells #[dy, my] 24) = w8 at *
  generalize w7.heap.size = kb at *
  have l08 := l07.trans lB
  have l68 := l7.trans lB
  have l48 := l46.trans l68
  have l18 := ((l2.trans l3).trans l4).trans l48
  have BA8 := BA.chg (Chg.of_later (ks := []) l68) (by simp)
  have sA1 := Sl.later sA1 (lA.trans l68)
  have sA2 := Sl.later sA2 (lA.trans l68)
  have sB1 := Sl.later sB1 lB
  have sB2 := Sl.later sB2 lB
  have H : ∀ w', Later w8 w' → w'.cell? ⟨ka, 0, none⟩ = some dx ∧ w'.cell? ⟨ka, 1, none⟩ = some mx ∧ w'.cell? ⟨kb, 0, none⟩ = some dy ∧ w'.cell? ⟨kb, 1, none⟩ = some my := fun w' hl => ⟨hl.cell (BA8.cell 0), hl.cell (BA8.cell 1), hl.cell (BB.cell 0), hl.cell (BB.cell 1)⟩
  clear BA BB BA8
  obtain ⟨f0, f1, f2, f3⟩ := H w8 (Later.refl _)
  repeat' (first | (simp (disch := omega) only [push_cast, ↓reduceIte, zA, zG, zB, zH, zI, zC, zJ, zK, zL, zD, zE, zF, zM, zN, zO, zP, zQ, reduceCtorEq, not_true_eq_false, not_false_eq_true, f0, f2, addr_add_eq, Nat.zero_add]) | (first | refine vIfE_of ?_ ?_ | refine vIfD_of ?_ ?_ | refine vIfQ_of ?_ ?_ | refine vIfV_of ?_ ?_) <;> intro _ | refine And.intro (by omega) ?_ | refine drawn_q ?_ | fail)
  refine (texts_c _ _ d' d' w8 sA1 sB1).mono ?_
  rintro _ w9 ⟨rfl, l9⟩
  rw [decide_eq_true (rfl : d' = d')]
  obtain ⟨f0, f1, f2, f3⟩ := H w9 l9
  repeat' (first | (simp (disch := omega) only [push_cast, ↓reduceIte, zA, zG, zB, zH, zI, zC, zJ, zK, zL, zD, zE, zF, zM, zN, zO, zP, zQ, reduceCtorEq, not_true_eq_false, not_false_eq_true, f1, f3, addr_add_eq, Nat.zero_add]) | (first | refine vIfE_of ?_ ?_ | refine vIfD_of ?_ ?_ | refine vIfQ_of ?_ ?_ | refine vIfV_of ?_ ?_) <;> intro _ | refine And.intro (by omega) ?_ | refine drawn_q ?_ | fail)
  refine (texts_c _ _ m' m' w9 (Sl.later sA2 l9) (Sl.later sB2 l9)).mono ?_
  rintro _ w10 ⟨rfl, l10⟩
  rw [decide_eq_true (rfl : m' = m')]
  have l810 := l9.trans l10
  have l110 := l18.trans l810
  have l010 := l08.trans l810
  obtain ⟨p0, p1, p2, p3, p4⟩ := G w10 l110
  repeat' (first | (simp (disch := omega) only [push_cast, ↓reduceIte, zA, zG, zB, zH, zI, zC, zJ, zK, zL, zD, zE, zF, zM, zN, zO, zP, zQ, reduceCtorEq, not_true_eq_false, not_false_eq_true, p3, p4, addr_add_eq, Nat.zero_add]) | (first | refine vIfE_of ?_ ?_ | refine vIfD_of ?_ ?_ | refine vIfQ_of ?_ ?_ | refine vIfV_of ?_ ?_) <;> intro _ | refine And.intro (by omega) ?_ | fail)
  refine drawn_k 11 ?_
  repeat' (first | (simp (disch := omega) only [push_cast, ↓reduceIte, zA, zG, zB, zH, zI, zC, zJ, zK, zL, zD, zE, zF, zM, zN, zO, zP, zQ, reduceCtorEq, not_true_eq_false, not_false_eq_true, p3, p4, addr_add_eq, Nat.zero_add]) | (first | refine vIfE_of ?_ ?_ | refine vIfD_of ?_ ?_ | refine vIfQ_of ?_ ?_ | refine vIfV_of ?_ ?_) <;> intro _ | refine And.intro (by omega) ?_ | fail)
  refine NFn.of hb22 (InV l (fun q => decide (a ≤ q.1) && decide (q.1 < b))) (stb_in _ _ _) (fun w' hl' => (within_c ol _ cl l a b w' (hl.later (l010.trans hl')) (hcp w' (l010.trans hl')) (by omega)).mono fun v w'' hv => ?_) ?_
  · obtain ⟨⟨ls, q1, q2, q3⟩, q4⟩ := hv
    exact ⟨⟨ls, q1, q2, fun e he => (q3 e he).is⟩, q4⟩
  repeat' (first | (simp (disch := omega) only [push_cast, ↓reduceIte, zA, zG, zB, zH, zI, zC, zJ, zK, zL, zD, zE, zF, zM, zN, zO, zP, zQ, reduceCtorEq, not_true_eq_false, not_false_eq_true, p3, p4, addr_add_eq, Nat.zero_add]) | (first | refine vIfE_of ?_ ?_ | refine vIfD_of ?_ ?_ | refine vIfQ_of ?_ ?_ | refine vIfV_of ?_ ?_) <;> intro _ | refine And.intro (by omega) ?_ | fail)
  rintro w11 l11 iv ⟨is, hi1, hi2, hi3⟩
  have l011 := l010.trans l11
  refine (dwithin_c _ l a b w11 (hl.later l011) (fun e he => (hes e he).is.later l011) (by omega)).mono ?_
  rintro jv w12 ⟨⟨js, hj1, hj2, hj3⟩, l12⟩
  obtain ⟨oi, ci, rfl, _⟩ := RecS.slice hi1
  obtain ⟨oj, cj, rfl, _⟩ := RecS.slice hj1
  have l012 := l011.trans l12
  repeat' (first | (simp (disch := omega) only [push_cast, ↓reduceIte, zA, zG, zB, zH, zI, zC, zJ, zK, zL, zD, zE, zF, zM, zN, zO, zP, zQ, reduceCtorEq, not_true_eq_false, not_false_eq_true]) | (first | refine vIfE_of ?_ ?_ | refine vIfD_of ?_ ?_ | refine vIfQ_of ?_ ?_ | refine vIfV_of ?_ ?_) <;> intro _ | refine And.intro (by omega) ?_ | refine drawn_q ?_ | fail)
  refine (dsame_c _ _ is js w12 (RecS.later hi1 l12) hj1 (fun e he => (hi3 e he).later l12) hj3).mono ?_
  rintro _ w13 ⟨⟨t, rfl, ht⟩, l13⟩
  obtain rfl := ht.2 (hi2.trans hj2.symm)
  have l013 := l012.trans l13
  have l113 := ((l110.trans l11).trans l12).trans l13
  obtain ⟨p0, p1, p2, p3, p4⟩ := G w13 l113
  repeat' (first | (simp (disch := omega) only [push_cast, ↓reduceIte, zA, zG, zB, zH, zI, zC, zJ, zK, zL, zD, zE, zF, zM, zN, zO, zP, zQ, reduceCtorEq, not_true_eq_false, not_false_eq_true, p3, addr_add_eq, Nat.zero_add]) | (first | refine vIfE_of ?_ ?_ | refine vIfD_of ?_ ?_ | refine vIfQ_of ?_ ?_ | refine vIfV_of ?_ ?_) <;> intro _ | refine And.intro (by omega) ?_ | refine drawn_q ?_ | fail)
  refine (split_c ol _ cl l a w13 (hl.later l013) (hcp w13 l013) (by omega)).mono ?_
  rintro _ w14 ⟨⟨sa, sb, rfl, ⟨lo, hsa, hae, haE⟩, ⟨hi, hsb, hbe, hbE⟩⟩, l14⟩
  have l014 := l013.trans l14
  have l114 := l113.trans l14
  have hsum : lo.length + hi.length = l.length := by
    have h1 := congrArg List.length hae
    have h2 := congrArg List.length hbe
    have h3 := flt_len (fun q => decide (q.1 < a)) (l.map El.abs)
    rw [List.length_map] at h1 h2 h3
    rw [h1, h2, h3]
  obtain ⟨oa, ca, rfl, _⟩ := RecS.slice hsa
  obtain ⟨ob, cb, rfl, _⟩ := RecS.slice hsb
  obtain ⟨p0, p1, p2, p3, p4⟩ := G w14 l114
  repeat' (first | (simp (disch := omega) only [push_cast, ↓reduceIte, zA, zG, zB, zH, zI, zC, zJ, zK, zL, zD, zE, zF, zM, zN, zO, zP, zQ, reduceCtorEq, not_true_eq_false, not_false_eq_true, p3, addr_add_eq, Nat.zero_add]) | (first | refine vIfE_of ?_ ?_ | refine vIfD_of ?_ ?_ | refine vIfQ_of ?_ ?_ | refine vIfV_of ?_ ?_) <;> intro _ | refine And.intro (by omega) ?_ | refine drawn_q ?_ | fail)
  refine (dwithin_c _ l (-9223372036854775808) a w14 (hl.later l014) (fun e he => (hes e he).is.later l014) (by omega)).mono ?_
  rintro kv w15 ⟨⟨ks, hk1, hk2, hk3⟩, l15⟩
  obtain ⟨ok, ck, rfl, _⟩ := RecS.slice hk1
  have l015 := l014.trans l15
  have hlk : lo.map El.abs = ks.map El.abs := by
    rw [hae, hk2]
    apply List.filter_congr
    intro q hq
    obtain ⟨x, hx, rfl⟩ := List.mem_map.1 hq
    have := (hr x hx).2.2.2.2.1
    have h1 : (-9223372036854775808 : Int) ≤ x.abs.1 := by show (-9223372036854775808 : Int) ≤ x.t; omega
    rw [decide_eq_true h1, Bool.true_and]
  repeat' (first | (simp (disch := omega) only [push_cast, ↓reduceIte, zA, zG, zB, zH, zI, zC, zJ, zK, zL, zD, zE, zF, zM, zN, zO, zP, zQ, reduceCtorEq, not_true_eq_false, not_false_eq_true]) | (first | refine vIfE_of ?_ ?_ | refine vIfD_of ?_ ?_ | refine vIfQ_of ?_ ?_ | refine vIfV_of ?_ ?_) <;> intro _ | refine And.intro (by omega) ?_ | refine drawn_q ?_ | fail)
  refine (dsame_c _ _ lo ks w15 (RecS.later hsa l15) hk1 (fun e he => (haE e he).is.later l15) hk3).mono ?_
  rintro _ w16 ⟨⟨t, rfl, ht⟩, l16⟩
  obtain rfl := ht.2 hlk
  have l016 := l015.trans l16
  have l316 : Later w4 w16 := ((((((l48.trans l810).trans l11).trans l12).trans l13).trans l14).trans l15).trans l16
  repeat' (first | (simp (disch := omega) only [push_cast, ↓reduceIte, zA, zG, zB, zH, zI, zC, zJ, zK, zL, zD, zE, zF, zM, zN, zO, zP, zQ, reduceCtorEq, not_true_eq_false, not_false_eq_true]) | (first | refine vIfE_of ?_ ?_ | refine vIfD_of ?_ ?_ | refine vIfQ_of ?_ ?_ | refine vIfV_of ?_ ?_) <;> intro _ | refine And.intro (by omega) ?_ | refine drawn_q ?_ | fail)
  refine (dsame_c _ _ xs ys w16 (RecS.later hxs (l4.trans l316)) (RecS.later hys l316) (fun e he => (hex e he).later (l4.trans l316)) (fun e he => (hey e he).later l316)).mono ?_
  rintro _ w17 ⟨⟨t, rfl, ht⟩, l17⟩
  obtain rfl := ht.2 hxy
  repeat' (first | (simp (disch := omega) only [push_cast, ↓reduceIte, zA, zG, zB, zH, zI, zC, zJ, zK, zL, zD, zE, zF, zM, zN, zO, zP, zQ, reduceCtorEq, not_true_eq_false, not_false_eq_true]) | (first | refine vIfE_of ?_ ?_ | refine vIfD_of ?_ ?_ | refine vIfQ_of ?_ ?_ | refine vIfV_of ?_ ?_) <;> intro _ | refine And.intro (by omega) ?_ | refine drawn_q ?_ | fail)
  refine (alive14_c w17).mono ?_
  rintro _ w18 ⟨rfl, l18'⟩
  have hd1 : decide (e = e) = true := decide_eq_true rfl
  have hd2 : decide (f = f) = true := decide_eq_true rfl
  have hd3 : decide (((lo.length : Int) + (hi.length : Int)) = (l.length : Int)) = true := decide_eq_true (by omega)
  repeat' (first | (simp (disch := omega) only [push_cast, ↓reduceIte, zA, zG, zB, zH, zI, zC, zJ, zK, zL, zD, zE, zF, zM, zN, zO, zP, zQ, reduceCtorEq, not_true_eq_false, not_false_eq_true, hd1, hd2, hd3, decide_true]) | (first | refine vIfE_of ?_ ?_ | refine vIfD_of ?_ ?_ | refine vIfQ_of ?_ ?_ | refine vIfV_of ?_ ?_) <;> intro _ | refine And.intro (by omega) ?_ | refine drawn_q ?_ | fail)
  first | exact ((l016.trans l17).trans l18')
theorem own : ownKnob Try.prog.godebug = none := by kernel_rfl
theorem lifted (os : Os) (started : os.Started) (H : Type) (enc : TypeId × Value → H) :
    ReturnsInHanded {} Try.checked os 5 .any (Rows.cuboidTellsSpec.pre6 enc Try.prog Try.f5 Rows.cuboidTellsRow.domain false) (Rows.cuboidTellsSpec.post enc Try.prog Try.f5 false true false false) := by
  refine lifted_later (C := Try.checked) own started (by kernel_rfl) Try.func5 hb5
    (ChangeSpec.witness6 (enc := enc) (C := Try.checked) false ⟨#[], #[.agg #[.slice none 0 0, .slice none 0 0], .slice none 0 0, .agg #[.slice none 0 0, .int .i64 0, .int .i64 0, .int .i64 0]], []⟩ 5 (by kernel_rfl) (by kernel_rfl) (by kernel_rfl) (by kernel_rfl))
    (by kernel_rfl) (list_all (by kernel_rfl)) (by kernel_rfl) Try.underlying4 rfl ?_ ?_
  · intro ds h
    have h : ds.length = 3 := h
    match ds, h with
    | [_, _, _], _ => rfl
  · intro W base args ds p hval0 hA0
    have hval : ∀ (j : Nat) t v, Try.f5.params[j]? = some t → args[j]? = some v → Value.okWide Try.prog W .any base t v := hval0
    have hA : DataW.TrodAll enc Try.prog W 0 (fun _ => true) true Try.f5.params.toList args.toList ds p := hA0
    rw [Try.params5] at hA hval
    obtain ⟨v0, vs0, d0, ds0, p0, q0, hargs, rfl, rfl, h0, r0⟩ := trodAll_cons hA
    obtain ⟨v1, vs1, d1, ds1, p1, q1, rfl, rfl, rfl, h1, r1⟩ := trodAll_cons r0
    obtain ⟨v2, vs2, d2, ds2, p2, q2, rfl, rfl, rfl, h2, r2⟩ := trodAll_cons r1
    obtain ⟨rfl, rfl, rfl⟩ := trodAll_nil r2
    obtain rfl : args = #[v0, v1, v2] := by cases args; simp_all
    obtain ⟨a0, w0⟩ := open_schema (hval 0 24 v0 rfl rfl) h0
    obtain ⟨a1, w1⟩ := open_rowsQ (hval 1 25 v1 rfl rfl) h1
    obtain ⟨a2, w2⟩ := open_where (hval 2 38 v2 rfl rfl) h2
    exact (by obtain ⟨rfl, hs⟩ := w0; obtain ⟨rfl, hu, hg, ha, hb⟩ := w2; exact law_c _ _ _ _ _ _ _ _ _ _ _ _ hs w1.1 w1.2 hu hg ha hb)
theorem over : Rows.cuboidTellsRow.holds Try.pinned (OpenSpec.ofChange Rows.cuboidTellsSpec) :=
  OpenClaim.holds_of_wide 5 Try.f5 rfl rfl rfl rfl rfl rfl rfl ⟨rfl, rfl, rfl, rfl, rfl⟩ rfl rfl rfl rfl rfl (by kernel_rfl) Try.func5 (by kernel_rfl)
    (of_decide_eq_true (by kernel_rfl)) (by unfold Func.isWrapper; first | (rw [if_pos (by decide +kernel)]; kernel_rfl) | (rw [if_neg (by decide +kernel)]; exact ⟨rfl, rfl⟩))
    (fun os started H enc _ => lifted os started H enc)
/-- The statement. -/
theorem proved : Rows.CuboidTellsSaid :=
  over
end Go.Proofs.Ythihbgpaoldbjaa.cuboidTells
