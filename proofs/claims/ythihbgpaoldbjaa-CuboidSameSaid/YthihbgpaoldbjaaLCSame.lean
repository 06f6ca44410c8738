/- CuboidSame holds for every input: in the cuboid of all dimensions rows are what they fold to; in one without any there is one for each bucket. -/
import Derived.Test.YthihbgpaoldbjaaRows
import Derived.Test.YthihbgpaoldbjaaPartN
set_option linter.all false
open Nat renaming reduceEqDiff → zA, reducePow → zB, reduceMul → zC, reduceAdd → zD, reduceSub → zE, reduceLeDiff → zF
open Int renaming reduceToNat → zG, reducePow → zH, reduceNeg → zI, reduceMul → zJ, reduceAdd → zK, reduceSub → zL, reduceLT → zM, reduceLE → zN, reduceEq → zO, reduceMod → zP, reduceDiv → zQ
set_option linter.unusedSimpArgs false
namespace Go.Proofs.Ythihbgpaoldbjaa.cuboidSame
open Go.Vc Go.Key Go.Fold Go.Stab Go.Cub Go.ChangeShapes Go.WideShapes Go.ChangeAt Go.RowKit
set_option maxRecDepth 100000
set_option maxHeartbeats 1000000 in
theorem law_c (dv mv v : Value) (d m : List ByteArray) (l : List El) (g : Int) (w : World) (h : ScIs w dv mv d m) (hl : RecS elC 4 w v l) (hes : ∀ e ∈ l, ElQ w e) (hg : I6 g) : FnC Try.prog 3 #[scV dv mv, v, .int .i64 g] w fun r w' => r = .bool true ∧ Later w w' := by
  unfold scV
  obtain ⟨ol, cl, rfl, gl1, gl2⟩ := hl.slice
  refine enter3 _ _ _ ?_
  unfold B3
  obtain ⟨l1, s1, F⟩ := box2 w dv mv 24
  have eca : (Value.agg #[dv, mv]).cells = #[dv, mv] := rfl
  repeat' (first | (simp (disch := omega) only [push_cast, ↓reduceIte, zA, zG, zB, zH, zI, zC, zJ, zK, zL, zD, zE, zF, zM, zN, zO, zP, zQ, reduceCtorEq, not_true_eq_false, not_false_eq_true, eca, s1]) | (first | refine vIfE_of ?_ ?_ | refine vIfD_of ?_ ?_ | refine vIfQ_of ?_ ?_ | refine vIfV_of ?_ ?_) <;> intro _ | refine And.intro (by omega) ?_ | fail)
  generalize w.alloc (.cells #[dv, mv] 24) = w1 at *
  obtain ⟨a0, a1, a2⟩ := F w1 (Later.refl _)
  repeat' (first | (simp (disch := omega) only [push_cast, ↓reduceIte, zA, zG, zB, zH, zI, zC, zJ, zK, zL, zD, zE, zF, zM, zN, zO, zP, zQ, reduceCtorEq, not_true_eq_false, not_false_eq_true, a2]) | (first | refine vIfE_of ?_ ?_ | refine vIfD_of ?_ ?_ | refine vIfQ_of ?_ ?_ | refine vIfV_of ?_ ?_) <;> intro _ | refine And.intro (by omega) ?_ | refine drawn_q ?_ | fail)
  refine (fits13_c dv mv _ d m l w1 (h.later l1) (hl.later l1) (fun e he => ⟨(hes e he).is.later l1, (hes e he).z⟩)).mono ?_
  rintro _ w2 ⟨rfl, l2⟩
  have l02 := l1.trans l2
  by_cases hF : F13 d m l
  case neg =>
    rw [decide_eq_false hF]
    repeat' (first | (simp (disch := omega) only [push_cast, ↓reduceIte, zA, zG, zB, zH, zI, zC, zJ, zK, zL, zD, zE, zF, zM, zN, zO, zP, zQ, reduceCtorEq, not_true_eq_false, not_false_eq_true]) | (first | refine vIfE_of ?_ ?_ | refine vIfD_of ?_ ?_ | refine vIfQ_of ?_ ?_ | refine vIfV_of ?_ ?_) <;> intro _ | refine And.intro (by omega) ?_ | refine drawn_q ?_ | fail)
    refine (alive14_c w2).mono ?_
    rintro _ w3 ⟨rfl, l3⟩
    repeat' (first | (simp (disch := omega) only [push_cast, ↓reduceIte, zA, zG, zB, zH, zI, zC, zJ, zK, zL, zD, zE, zF, zM, zN, zO, zP, zQ, reduceCtorEq, not_true_eq_false, not_false_eq_true]) | (first | refine vIfE_of ?_ ?_ | refine vIfD_of ?_ ?_ | refine vIfQ_of ?_ ?_ | refine vIfV_of ?_ ?_) <;> intro _ | refine And.intro (by omega) ?_ | refine drawn_q ?_ | fail)
    first | exact ⟨rfl, (l02.trans l3)⟩ | exact (l02.trans l3)
  rw [decide_eq_true hF]
  obtain ⟨hf10, _, hn, hs, hr⟩ := hF
  have gd : ∀ e ∈ l, Gd d.length m.length e.abs := fun e he => gd_of (hr e he) hs
  have hcr : ∀ e ∈ l, Cr d.length m.length e := fun e he => ⟨gd e he, (hr e he).2.2.2.2.1, (hr e he).2.2.2.2.2.1⟩
  have hap : Ap d := (List.pairwise_append.1 hs.2.1).1
  obtain ⟨a0, a1, a2⟩ := F w2 l2
  repeat' (first | (simp (disch := omega) only [push_cast, ↓reduceIte, zA, zG, zB, zH, zI, zC, zJ, zK, zL, zD, zE, zF, zM, zN, zO, zP, zQ, reduceCtorEq, not_true_eq_false, not_false_eq_true, a0, a2, addr_add_eq, Nat.zero_add]) | (first | refine vIfE_of ?_ ?_ | refine vIfD_of ?_ ?_ | refine vIfQ_of ?_ ?_ | refine vIfV_of ?_ ?_) <;> intro _ | refine And.intro (by omega) ?_ | refine drawn_q ?_ | fail)
  refine (project_c m.length dv mv _ dv d m d l 1 w2 (h.later l02) hap (hl.later l02) (Sl.later h.dS l02) (fun e he => ⟨(hes e he).is.later l02, hcr e he⟩) (by have := hf10.1; omega) (by omega) (by decide)).mono ?_
  rintro _ w3 ⟨⟨xv, e, rfl, hp⟩, l3⟩
  have hsub : sub d 0 d = true := by have := sub_self hap d.length 0 rfl; simpa using this
  have hps : (l.map El.abs).map (prj d d 1) = l.map El.abs := by
    rw [List.map_map]
    apply List.map_congr_left
    intro x hx
    exact prj_self hap (hr x hx).1
  have hx : FoldR d.length m.length w3 w2.heap.size xv e (l.map El.abs) := by
    rcases hp with ⟨_, _, h⟩ | ⟨_, _, _, h⟩ | ⟨_, _, h⟩
    · rw [hsub] at h; cases h
    · exact absurd (by decide) h
    · rwa [hps] at h
  clear hp
  have l03 := l02.trans l3
  repeat' (first | (simp (disch := omega) only [push_cast, ↓reduceIte, zA, zG, zB, zH, zI, zC, zJ, zK, zL, zD, zE, zF, zM, zN, zO, zP, zQ, reduceCtorEq, not_true_eq_false, not_false_eq_true]) | (first | refine vIfE_of ?_ ?_ | refine vIfD_of ?_ ?_ | refine vIfQ_of ?_ ?_ | refine vIfV_of ?_ ?_) <;> intro _ | refine And.intro (by omega) ?_ | refine drawn_q ?_ | fail)
  refine (dfold_c d.length m.length _ l w3 (hl.later l03) (fun e he => ⟨(hes e he).is.later l03, gd e he⟩) (by omega)).mono ?_
  rintro _ w4 ⟨yv, f, rfl, hy, l4⟩
  have l04 := l03.trans l4
  obtain ⟨he, xs, ys, hxs, hys, hex, hey, hxy⟩ := fold_one hx hy
  subst he
  obtain ⟨ox, cx, rfl, _⟩ := RecS.slice hxs
  obtain ⟨oy, cy, rfl, _⟩ := RecS.slice hys
  repeat' (first | (simp (disch := omega) only [push_cast, ↓reduceIte, zA, zG, zB, zH, zI, zC, zJ, zK, zL, zD, zE, zF, zM, zN, zO, zP, zQ, reduceCtorEq, not_true_eq_false, not_false_eq_true]) | (first | refine vIfE_of ?_ ?_ | refine vIfD_of ?_ ?_ | refine vIfQ_of ?_ ?_ | refine vIfV_of ?_ ?_) <;> intro _ | refine And.intro (by omega) ?_ | refine drawn_q ?_ | fail)
  refine (dsame_c _ _ xs ys w4 (RecS.later hxs l4) hys (fun e he => (hex e he).later l4) hey).mono ?_
  rintro _ w5 ⟨⟨t, rfl, ht⟩, l5⟩
  obtain rfl := ht.2 hxy
  have l05 := l04.trans l5
  obtain ⟨a0, a1, a2⟩ := F w5 ((((l2.trans l3)).trans l4).trans l5)
  repeat' (first | (simp (disch := omega) only [push_cast, ↓reduceIte, zA, zG, zB, zH, zI, zC, zJ, zK, zL, zD, zE, zF, zM, zN, zO, zP, zQ, reduceCtorEq, not_true_eq_false, not_false_eq_true, a2]) | (first | refine vIfE_of ?_ ?_ | refine vIfD_of ?_ ?_ | refine vIfQ_of ?_ ?_ | refine vIfV_of ?_ ?_) <;> intro _ | refine And.intro (by omega) ?_ | refine drawn_q ?_ | fail)
  refine (project_c m.length dv mv _ (.slice none 0 0) d m [] l g w5 (h.later l05) hap (hl.later l05) (Sl.nil _) (fun e he => ⟨(hes e he).is.later l05, hcr e he⟩) (by simp) (by omega) hg).mono ?_
  rintro _ w6 ⟨⟨zv, e2, rfl, hp⟩, l6⟩
  have l06 := l05.trans l6
  have bad : ∀ e2 : Int, e2 ≠ 0 → (e2 = 141 ∨ e2 = 111 ∨ e2 = 121) → True := fun _ _ _ => trivial
  rcases hp with ⟨rfl, rfl, hsb⟩ | ⟨rfl, rfl, _, _⟩ | ⟨_, hrt, hz⟩
  · cases hsb
  · repeat' (first | (simp (disch := omega) only [push_cast, ↓reduceIte, zA, zG, zB, zH, zI, zC, zJ, zK, zL, zD, zE, zF, zM, zN, zO, zP, zQ, reduceCtorEq, not_true_eq_false, not_false_eq_true]) | (first | refine vIfE_of ?_ ?_ | refine vIfD_of ?_ ?_ | refine vIfQ_of ?_ ?_ | refine vIfV_of ?_ ?_) <;> intro _ | refine And.intro (by omega) ?_ | refine drawn_q ?_ | fail)
    refine (alive14_c w6).mono ?_
    rintro _ w7 ⟨rfl, l7⟩
    repeat' (first | (simp (disch := omega) only [push_cast, ↓reduceIte, zA, zG, zB, zH, zI, zC, zJ, zK, zL, zD, zE, zF, zM, zN, zO, zP, zQ, reduceCtorEq, not_true_eq_false, not_false_eq_true]) | (first | refine vIfE_of ?_ ?_ | refine vIfD_of ?_ ?_ | refine vIfQ_of ?_ ?_ | refine vIfV_of ?_ ?_) <;> intro _ | refine And.intro (by omega) ?_ | refine drawn_q ?_ | fail)
    first | exact ⟨rfl, (l06.trans l7)⟩ | exact (l06.trans l7)
  rcases hz with ⟨rfl, rfl, _⟩ | ⟨rfl, zs, hzo, hzF, hzE⟩
  · repeat' (first | (simp (disch := omega) only [push_cast, ↓reduceIte, zA, zG, zB, zH, zI, zC, zJ, zK, zL, zD, zE, zF, zM, zN, zO, zP, zQ, reduceCtorEq, not_true_eq_false, not_false_eq_true]) | (first | refine vIfE_of ?_ ?_ | refine vIfD_of ?_ ?_ | refine vIfQ_of ?_ ?_ | refine vIfV_of ?_ ?_) <;> intro _ | refine And.intro (by omega) ?_ | refine drawn_q ?_ | fail)
    refine (alive14_c w6).mono ?_
    rintro _ w7 ⟨rfl, l7⟩
    repeat' (first | (simp (disch := omega) only [push_cast, ↓reduceIte, zA, zG, zB, zH, zI, zC, zJ, zK, zL, zD, zE, zF, zM, zN, zO, zP, zQ, reduceCtorEq, not_true_eq_false, not_false_eq_true]) | (first | refine vIfE_of ?_ ?_ | refine vIfD_of ?_ ?_ | refine vIfQ_of ?_ ?_ | refine vIfV_of ?_ ?_) <;> intro _ | refine And.intro (by omega) ?_ | refine drawn_q ?_ | fail)
    first | exact ⟨rfl, (l06.trans l7)⟩ | exact (l06.trans l7)
  have hzs := OwnR.s hzo
  have hle := Cub.F.le hzF
  rw [List.length_map, List.length_map, List.length_map] at hle
  have hgap := gaps (show 0 < g by have := hrt.1; omega) hzF
  have htm : ∀ z ∈ zs, 0 ≤ z.t ∧ z.t ≤ 1099511627776 := fun z hz => by
    obtain ⟨y, hy, hs⟩ := hzF.mem (List.mem_map_of_mem hz)
    obtain ⟨r, hr', rfl⟩ := List.mem_map.1 hy
    obtain ⟨x, hx', rfl⟩ := List.mem_map.1 hr'
    have h1 : z.t = x.t - x.t % g := hs.1
    have h2 := (hcr x hx').2
    have h3 := Int.emod_nonneg x.t (show g ≠ 0 by have := hrt.1; omega)
    have h4 := Int.emod_lt_of_pos x.t (show 0 < g by have := hrt.1; omega)
    have h5 : x.t - x.t % g = g * (x.t / g) := by have := Int.mul_ediv_add_emod x.t g; omega
    have h6 : 0 ≤ g * (x.t / g) := Int.mul_nonneg (by have := hrt.1; omega) (Int.ediv_nonneg h2.1 (by have := hrt.1; omega))
    omega
  obtain ⟨oz, cz, rfl, gz1, gz2⟩ := RecS.slice hzs
  repeat' (first | (simp (disch := omega) only [push_cast, ↓reduceIte, zA, zG, zB, zH, zI, zC, zJ, zK, zL, zD, zE, zF, zM, zN, zO, zP, zQ, reduceCtorEq, not_true_eq_false, not_false_eq_true]) | (first | refine vIfE_of ?_ ?_ | refine vIfD_of ?_ ?_ | refine vIfQ_of ?_ ?_ | refine vIfV_of ?_ ?_) <;> intro _ | refine And.intro (by omega) ?_ | refine drawn_q ?_ | fail)
  refine vc_loop W3_0 (fun i : Nat => [(15, .int .i64 (i : Int))])
    (fun i w' => 1 ≤ i ∧ (i = 1 ∨ i ≤ zs.length) ∧ Later w6 w') (fun i => zs.length - i) 1 (by decide) ?_ ?_ ?_
  · simp (disch := omega) only [push_cast, ↓reduceIte, zA, zG, zB, zH, zI, zC, zJ, zK, zL, zD, zE, zF, zM, zN, zO, zP, zQ, reduceCtorEq, not_true_eq_false, not_false_eq_true]
  · exact ⟨by omega, .inl rfl, Later.refl _⟩
  rintro i uu w7 ⟨h1, hi, l7⟩
  by_cases hlt : i < zs.length
  · cases oz with
    | none => have h1 := SlN.len hzs; have := h1.2.2.2.2 rfl; have := h1.1; omega
    | some ad =>
    obtain ⟨gz, rfl, _⟩ := own_writes hzo
    obtain ⟨k, rfl⟩ : ∃ k, i = k + 1 := ⟨i - 1, by omega⟩
    have hz7 := RecS.later hzs l7
    have f1 := RecS.cell elC_len hz7 (i := k + 1) (j := 0) hlt (x := .int .i64 (zs[k + 1]).t) rfl
    have f2 := RecS.cell elC_len hz7 (i := k) (j := 0) (by omega) (x := .int .i64 (zs[k]).t) rfl
    rw [addr_add_eq, addr_add_eq] at f1 f2
    have hgk := hgap k (by rw [List.length_map]; exact hlt)
    rw [List.getElem_map, List.getElem_map] at hgk
    have hgk : (zs[k]).t + g ≤ (zs[k + 1]).t := hgk
    have t1 := htm _ (List.getElem_mem (h := hlt))
    have t2 := htm zs[k] (List.getElem_mem _)
    have hr1 := hrt.1
    have hr2 := hrt.2
    generalize (zs[k + 1]).t = p at *
    generalize (zs[k]).t = q at *
    have e1 : ((k : Int) + 1).toNat = k + 1 := by omega
    have e2 : ((k : Int) + 1 - 1).toNat = k := by omega
    have e3 : (k : Int) + 1 - 1 = k := by omega
    rw [Nat.zero_add, Nat.add_zero] at f1 f2
    repeat' (first | (simp (disch := omega) only [push_cast, ↓reduceIte, zA, zG, zB, zH, zI, zC, zJ, zK, zL, zD, zE, zF, zM, zN, zO, zP, zQ, reduceCtorEq, not_true_eq_false, not_false_eq_true, f1, f2, e1, e2, e3, addr_add_eq, Nat.zero_add]) | (first | refine vIfE_of ?_ ?_ | refine vIfD_of ?_ ?_ | refine vIfQ_of ?_ ?_ | refine vIfV_of ?_ ?_) <;> intro _ | refine And.intro (by omega) ?_ | refine drawn_q ?_ | fail)
    intro w8 l8
    repeat' (first | (simp (disch := omega) only [push_cast, ↓reduceIte, zA, zG, zB, zH, zI, zC, zJ, zK, zL, zD, zE, zF, zM, zN, zO, zP, zQ, reduceCtorEq, not_true_eq_false, not_false_eq_true]) | (first | refine vIfE_of ?_ ?_ | refine vIfD_of ?_ ?_ | refine vIfQ_of ?_ ?_ | refine vIfV_of ?_ ?_) <;> intro _ | refine And.intro (by omega) ?_ | refine drawn_q ?_ | fail)
    exact ⟨rfl, k + 1 + 1, by simp (disch := omega) only [push_cast, ↓reduceIte, zA, zG, zB, zH, zI, zC, zJ, zK, zL, zD, zE, zF, zM, zN, zO, zP, zQ, reduceCtorEq, not_true_eq_false, not_false_eq_true], ⟨by omega, .inr (by omega), l7.trans l8⟩, by dsimp only; omega⟩
  repeat' (first | (simp (disch := omega) only [push_cast, ↓reduceIte, zA, zG, zB, zH, zI, zC, zJ, zK, zL, zD, zE, zF, zM, zN, zO, zP, zQ, reduceCtorEq, not_true_eq_false, not_false_eq_true]) | (first | refine vIfE_of ?_ ?_ | refine vIfD_of ?_ ?_ | refine vIfQ_of ?_ ?_ | refine vIfV_of ?_ ?_) <;> intro _ | refine And.intro (by omega) ?_ | refine drawn_q ?_ | fail)
  refine (alive14_c w7).mono ?_
  rintro _ w8 ⟨rfl, l8⟩
  have hdc : decide ((zs.length : Int) ≤ (l.length : Int)) = true := decide_eq_true (by omega)
  repeat' (first | (simp (disch := omega) only [push_cast, ↓reduceIte, zA, zG, zB, zH, zI, zC, zJ, zK, zL, zD, zE, zF, zM, zN, zO, zP, zQ, reduceCtorEq, not_true_eq_false, not_false_eq_true, hdc]) | (first | refine vIfE_of ?_ ?_ | refine vIfD_of ?_ ?_ | refine vIfQ_of ?_ ?_ | refine vIfV_of ?_ ?_) <;> intro _ | refine And.intro (by omega) ?_ | refine drawn_q ?_ | fail)
  first | exact ⟨rfl, ((l06.trans l7).trans l8)⟩ | exact ((l06.trans l7).trans l8)
theorem own : ownKnob Try.prog.godebug = none := by kernel_rfl
theorem lifted (os : Os) (started : os.Started) (H : Type) (enc : TypeId × Value → H) :
    ReturnsInHanded {} Try.checked os 3 .any (Rows.cuboidSameSpec.pre6 enc Try.prog Try.f3 Rows.cuboidSameRow.domain false) (Rows.cuboidSameSpec.post enc Try.prog Try.f3 false true false false) := by
  refine lifted_later (C := Try.checked) own started (by kernel_rfl) Try.func3 hb3
    (ChangeSpec.witness6 (enc := enc) (C := Try.checked) false ⟨#[], #[.agg #[.slice none 0 0, .slice none 0 0], .slice none 0 0, .int .i64 0], []⟩ 3 (by kernel_rfl) (by kernel_rfl) (by kernel_rfl) (by kernel_rfl))
    (by kernel_rfl) (list_all (by kernel_rfl)) (by kernel_rfl) Try.underlying4 rfl ?_ ?_
  · intro ds h
    have h : ds.length = 3 := h
    match ds, h with
    | [_, _, _], _ => rfl
  · intro W base args ds p hval0 hA0
    have hval : ∀ (j : Nat) t v, Try.f3.params[j]? = some t → args[j]? = some v → Value.okWide Try.prog W .any base t v := hval0
    have hA : DataW.TrodAll enc Try.prog W 0 (fun _ => true) true Try.f3.params.toList args.toList ds p := hA0
    rw [Try.params3] at hA hval
    obtain ⟨v0, vs0, d0, ds0, p0, q0, hargs, rfl, rfl, h0, r0⟩ := trodAll_cons hA
    obtain ⟨v1, vs1, d1, ds1, p1, q1, rfl, rfl, rfl, h1, r1⟩ := trodAll_cons r0
    obtain ⟨v2, vs2, d2, ds2, p2, q2, rfl, rfl, rfl, h2, r2⟩ := trodAll_cons r1
    obtain ⟨rfl, rfl, rfl⟩ := trodAll_nil r2
    obtain rfl : args = #[v0, v1, v2] := by cases args; simp_all
    obtain ⟨a0, w0⟩ := open_schema (hval 0 24 v0 rfl rfl) h0
    obtain ⟨a1, w1⟩ := open_rowsQ (hval 1 25 v1 rfl rfl) h1
    obtain ⟨a2, rfl, rfl, rfl, w2⟩ := open_int Try.underlying3 (hval 2 3 v2 rfl rfl) h2
    exact (by obtain ⟨rfl, hs⟩ := w0; exact law_c _ _ _ _ _ _ _ _ hs w1.1 w1.2 (i64_of_wf w2))
theorem over : Rows.cuboidSameRow.holds Try.pinned (OpenSpec.ofChange Rows.cuboidSameSpec) :=
  OpenClaim.holds_of_wide 3 Try.f3 rfl rfl rfl rfl rfl rfl rfl ⟨rfl, rfl, rfl, rfl, rfl⟩ rfl rfl rfl rfl rfl (by kernel_rfl) Try.func3 (by kernel_rfl)
    (of_decide_eq_true (by kernel_rfl)) (by unfold Func.isWrapper; first | (rw [if_pos (by decide +kernel)]; kernel_rfl) | (rw [if_neg (by decide +kernel)]; exact ⟨rfl, rfl⟩))
    (fun os started H enc _ => lifted os started H enc)
/-- The statement. -/
theorem proved : Rows.CuboidSameSaid :=
  over
end Go.Proofs.Ythihbgpaoldbjaa.cuboidSame
