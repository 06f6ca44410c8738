/- RowsOwn holds for every input: what is folded, joined and copied is its owner's. -/
import Derived.Test.YthihbgpaoldbjaaRows
import Derived.Test.YthihbgpaoldbjaaPartN
set_option linter.all false
open Nat renaming reduceEqDiff → zA, reducePow → zB, reduceMul → zC, reduceAdd → zD, reduceSub → zE, reduceLeDiff → zF
open Int renaming reduceToNat → zG, reducePow → zH, reduceNeg → zI, reduceMul → zJ, reduceAdd → zK, reduceSub → zL, reduceLT → zM, reduceLE → zN, reduceEq → zO, reduceMod → zP, reduceDiv → zQ
set_option linter.unusedSimpArgs false
namespace Go.Proofs.Ythihbgpaoldbjaa.rowsOwn
open Go.Vc Go.Key Go.Fold Go.Stab Go.ChangeShapes Go.WideShapes Go.ChangeAt Go.RowKit
set_option maxRecDepth 100000
set_option maxHeartbeats 1000000 in
theorem law_c (dv mv v : Value) (d m : List ByteArray) (l : List El) (w : World) (h : ScIs w dv mv d m) (hl : RecS elC 4 w v l) (hes : ∀ e ∈ l, ElQ w e) : FnC Try.prog 10 #[scV dv mv, v] w fun r w' => r = .bool true ∧ Later w w' := by
  unfold scV
  obtain ⟨ol, cl, rfl, gl1, gl2⟩ := hl.slice
  refine enter10 _ _ ?_
  unfold B10
  obtain ⟨l1, s1, F⟩ := box2 w dv mv 24
  have eca : (Value.agg #[dv, mv]).cells = #[dv, mv] := rfl
  repeat' (first | (simp (disch := omega) only [push_cast, ↓reduceIte, zA, zG, zB, zH, zI, zC, zJ, zK, zL, zD, zE, zF, zM, zN, zO, zP, zQ, reduceCtorEq, not_true_eq_false, not_false_eq_true, eca, s1]) | (first | refine vIfE_of ?_ ?_ | refine vIfD_of ?_ ?_ | refine vIfQ_of ?_ ?_ | refine vIfV_of ?_ ?_) <;> intro _ | refine And.intro (by omega) ?_ | fail)
  generalize w.alloc (.cells #[dv, mv] 24) = w1 at *
  obtain ⟨a0, a1, a2⟩ := F w1 (Later.refl _)
  repeat' (first | (simp (disch := omega) only [push_cast, ↓reduceIte, zA, zG, zB, zH, zI, zC, zJ, zK, zL, zD, zE, zF, zM, zN, zO, zP, zQ, reduceCtorEq, not_true_eq_false, not_false_eq_true, a2]) | (first | refine vIfE_of ?_ ?_ | refine vIfD_of ?_ ?_ | refine vIfQ_of ?_ ?_ | refine vIfV_of ?_ ?_) <;> intro _ | refine And.intro (by omega) ?_ | refine drawn_q ?_ | fail)
  refine (fits13_c dv mv _ d m l w1 (h.later l1) (hl.later l1) (fun e he => ⟨(hes e he).is.later l1, (hes e he).z⟩)).mono ?_
  rintro _ w2 ⟨rfl, l2⟩
  have l02 := l1.trans l2
  by_cases hF : F13 d m l
  case neg =>
    rw [decide_eq_false hF]
    repeat' (first | (simp (disch := omega) only [push_cast, ↓reduceIte, zA, zG, zB, zH, zI, zC, zJ, zK, zL, zD, zE, zF, zM, zN, zO, zP, zQ, reduceCtorEq, not_true_eq_false, not_false_eq_true]) | (first | refine vIfE_of ?_ ?_ | refine vIfD_of ?_ ?_ | refine vIfQ_of ?_ ?_ | refine vIfV_of ?_ ?_) <;> intro _ | refine And.intro (by omega) ?_ | refine drawn_q ?_ | fail)
    refine (alive13_c w2).mono ?_
    rintro _ w3 ⟨rfl, l3⟩
    repeat' (first | (simp (disch := omega) only [push_cast, ↓reduceIte, zA, zG, zB, zH, zI, zC, zJ, zK, zL, zD, zE, zF, zM, zN, zO, zP, zQ, reduceCtorEq, not_true_eq_false, not_false_eq_true]) | (first | refine vIfE_of ?_ ?_ | refine vIfD_of ?_ ?_ | refine vIfQ_of ?_ ?_ | refine vIfV_of ?_ ?_) <;> intro _ | refine And.intro (by omega) ?_ | refine drawn_q ?_ | fail)
    first | exact ⟨rfl, (l02.trans l3)⟩ | exact (l02.trans l3)
  rw [decide_eq_true hF]
  obtain ⟨_, _, hn, hs, hr⟩ := hF
  have gd : ∀ e ∈ l, Gd d.length m.length e.abs := fun e he => gd_of (hr e he) hs
  have hD := hs.2.2.1
  have hcp : ∀ w', Later w w' → ∀ e ∈ l, EIs w' e ∧ e.d.length ≤ 1000000 ∧ e.a.length ≤ 1000000 := fun w' hl e he => ⟨(hes e he).is.later hl, by have := (gd e he).rr.1.dl; omega, by have := (gd e he).rr.1.al; omega⟩
  repeat' (first | (simp (disch := omega) only [push_cast, ↓reduceIte, zA, zG, zB, zH, zI, zC, zJ, zK, zL, zD, zE, zF, zM, zN, zO, zP, zQ, reduceCtorEq, not_true_eq_false, not_false_eq_true]) | (first | refine vIfE_of ?_ ?_ | refine vIfD_of ?_ ?_ | refine vIfQ_of ?_ ?_ | refine vIfV_of ?_ ?_) <;> intro _ | refine And.intro (by omega) ?_ | refine drawn_q ?_ | fail)
  refine (copy_c _ l w2 (hl.later l02) (hcp w2 l02) (by omega)).mono ?_
  rintro cv w3 ⟨⟨cs, hco, hca, hcE⟩, l3⟩
  have l03 := l02.trans l3
  obtain ⟨oc, cc, rfl, _⟩ := RecS.slice (OwnR.s hco)
  have hcl : cs.length = l.length := by have := congrArg List.length hca; simpa using this
  repeat' (first | (simp (disch := omega) only [push_cast, ↓reduceIte, zA, zG, zB, zH, zI, zC, zJ, zK, zL, zD, zE, zF, zM, zN, zO, zP, zQ, reduceCtorEq, not_true_eq_false, not_false_eq_true]) | (first | refine vIfE_of ?_ ?_ | refine vIfD_of ?_ ?_ | refine vIfQ_of ?_ ?_ | refine vIfV_of ?_ ?_) <;> intro _ | refine And.intro (by omega) ?_ | refine drawn_q ?_ | fail)
  refine (rfold_c d.length m.length _ l w3 (hl.later l03) (fun e he => ⟨(hes e he).is.later l03, gd e he⟩) (by omega)).mono ?_
  rintro _ w4 ⟨xv, e, rfl, hx, l4⟩
  have hxx : (e = 0 ∨ e = 121) ∧ ∃ (xs : List El), OwnE w4 w3.heap.size xv xs ∧ (∀ z ∈ xs, EO w4 w3.heap.size z ∧ z.d.length = d.length ∧ z.a.length = m.length) := by
    rcases hx with ⟨rfl, rfl, _⟩ | ⟨rfl, xs, ho, _, hE⟩
    · exact ⟨.inr rfl, [], OwnR.nil _ _ _, by simp⟩
    · exact ⟨.inl rfl, xs, ho, fun z hz => ⟨(hE z hz).1, (hE z hz).2.rr.2⟩⟩
  clear hx
  obtain ⟨hee, xs, hxo, hxE⟩ := hxx
  obtain ⟨ox, cx, rfl, gx1, gx2⟩ := RecS.slice (OwnR.s hxo)
  repeat' (first | (simp (disch := omega) only [push_cast, ↓reduceIte, zA, zG, zB, zH, zI, zC, zJ, zK, zL, zD, zE, zF, zM, zN, zO, zP, zQ, reduceCtorEq, not_true_eq_false, not_false_eq_true]) | (first | refine vIfE_of ?_ ?_ | refine vIfD_of ?_ ?_ | refine vIfQ_of ?_ ?_ | refine vIfV_of ?_ ?_) <;> intro _ | refine And.intro (by omega) ?_ | refine drawn_q ?_ | fail)
  refine vc_loop W10_0 (fun i : Nat => [(9, .int .i64 (i : Int))])
    (fun i w' => i ≤ xs.length ∧ Later w3 w' ∧ ∀ gr, ox = some ⟨gr, 0, none⟩ → w3.heap.size ≤ gr ∧ XS w3 w' w3.heap.size gr xs) (fun i => xs.length - i) 0 (by decide) ?_ ?_ ?_
  · simp (disch := omega) only [push_cast, ↓reduceIte, zA, zG, zB, zH, zI, zC, zJ, zK, zL, zD, zE, zF, zM, zN, zO, zP, zQ, reduceCtorEq, not_true_eq_false, not_false_eq_true]
  · refine ⟨by omega, l4, fun gr hgr => ?_⟩
    subst hgr
    obtain ⟨g, hg, hB, _⟩ := own_writes hxo
    obtain rfl : gr = g := congrArg Addr.block hg
    have hX := XS.of hxo (fun e he => (hxE e he).1)
    exact ⟨hB, l4, hX.rows, hX.ws, hX.wa⟩
  rintro i uu w5 ⟨hi, l5, hX⟩
  by_cases hlt : i < xs.length
  · cases ox with
    | none => have h1 := SlN.len (OwnR.s hxo); have := h1.2.2.2.2 rfl; have := h1.1; omega
    | some ad =>
    obtain ⟨gr, rfl, _⟩ := own_writes hxo
    obtain ⟨hgr, X5⟩ := hX gr rfl
    clear hX
    obtain ⟨hE, hzd, hza⟩ := hxE xs[i] (List.getElem_mem _)
    obtain ⟨rs, hb, hrs⟩ := X5.rows
    obtain ⟨r1, r3, r2⟩ := hrs i hlt
    have f1 : w5.cell? ⟨gr, i * 4 + 1, none⟩ = some xs[i].dv := by rw [hb.cell]; exact r1
    have hws := X5.ws xs[i] (List.getElem_mem _)
    rcases hws with h0 | ⟨g, c, cs1, hdv, hBg, hbg, hsz⟩
    · omega
    rw [hdv] at f1
    have hce := hbg.here (p := 0) (by omega)
    have hfz := hbg.frozen 0
    repeat' (first | (simp (disch := omega) only [push_cast, ↓reduceIte, zA, zG, zB, zH, zI, zC, zJ, zK, zL, zD, zE, zF, zM, zN, zO, zP, zQ, reduceCtorEq, not_true_eq_false, not_false_eq_true, f1, hce, hfz, addr_add_eq, Nat.zero_add]) | (first | refine vIfE_of ?_ ?_ | refine vIfD_of ?_ ?_ | refine vIfQ_of ?_ ?_ | refine vIfV_of ?_ ?_) <;> intro _ | refine And.intro (by omega) ?_ | refine drawn_q ?_ | fail)
    have X6 := X5.put (Nat.le_refl _) hBg (by decide) hbg (hbg.set 0 (.string ⟨#[116, 117, 114, 110, 101, 100]⟩)) (by simp) (chg_setCell w5 (by simp) _)
    generalize w5.setCell ⟨g, 0, none⟩ (.string ⟨#[116, 117, 114, 110, 101, 100]⟩) = w6 at *
    clear f1 hce hfz hbg hb hrs r1 r2 r3 X5
    obtain ⟨rs, hb, hrs⟩ := X6.rows
    obtain ⟨r1, r3, r2⟩ := hrs i hlt
    have hce := hb.here (p := i * 4 + 2) r2
    have hfz := hb.frozen (i * 4 + 2)
    repeat' (first | (simp (disch := omega) only [push_cast, ↓reduceIte, zA, zG, zB, zH, zI, zC, zJ, zK, zL, zD, zE, zF, zM, zN, zO, zP, zQ, reduceCtorEq, not_true_eq_false, not_false_eq_true, hce, hfz, addr_add_eq, Nat.zero_add]) | (first | refine vIfE_of ?_ ?_ | refine vIfD_of ?_ ?_ | refine vIfQ_of ?_ ?_ | refine vIfV_of ?_ ?_) <;> intro _ | refine And.intro (by omega) ?_ | refine drawn_q ?_ | fail)
    have X7 := X6.num hgr i (.int .i64 0)
    generalize w6.setCell ⟨gr, i * 4 + 2, none⟩ (.int .i64 0) = w7 at *
    clear hce hfz hb hrs r1 r2 r3 X6
    refine vc_loop W10_1 (fun k : Nat => [(10, .int .i64 (k : Int))])
      (fun k w' => k ≤ m.length ∧ XS w3 w' w3.heap.size gr xs) (fun k => m.length - k) 0 (by decide) ?_ ?_ ?_
    · simp (disch := omega) only [push_cast, ↓reduceIte, zA, zG, zB, zH, zI, zC, zJ, zK, zL, zD, zE, zF, zM, zN, zO, zP, zQ, reduceCtorEq, not_true_eq_false, not_false_eq_true]
    · exact ⟨by omega, X7⟩
    clear X7
    rintro k uu2 w8 ⟨hk, X8⟩
    obtain ⟨rs, hb, hrs⟩ := X8.rows
    obtain ⟨r1, r3, r2⟩ := hrs i hlt
    have f3 : w8.cell? ⟨gr, i * 4 + 3, none⟩ = some xs[i].av := by rw [hb.cell]; exact r3
    obtain ⟨oa, ca, hav, ga1, ga2⟩ := RecS.slice hE.is.2
    rw [hav, hza] at f3
    have hml := hs.2.2.2.2
    by_cases hkl : k < m.length
    · have hwa := X8.wa xs[i] (List.getElem_mem _)
      rcases hwa with h0 | ⟨g2, c2, cs2, hav2, hBg2, hbg2, hsz2⟩
      · omega
      rw [hav, hza] at hav2
      simp only [Value.slice.injEq] at hav2
      obtain ⟨rfl, _, rfl⟩ := hav2
      repeat' (first | (simp (disch := omega) only [push_cast, ↓reduceIte, zA, zG, zB, zH, zI, zC, zJ, zK, zL, zD, zE, zF, zM, zN, zO, zP, zQ, reduceCtorEq, not_true_eq_false, not_false_eq_true, f3, addr_add_eq, Nat.zero_add]) | (first | refine vIfE_of ?_ ?_ | refine vIfD_of ?_ ?_ | refine vIfQ_of ?_ ?_ | refine vIfV_of ?_ ?_) <;> intro _ | refine And.intro (by omega) ?_ | refine drawn_q ?_ | fail)
      have hcan := hbg2.canAll [.int .i64 0, .int .i64 0, .int .i64 0] (k * 3) (by simp only [List.length_cons, List.length_nil]; omega)
      obtain ⟨cs3, p1, p2, p3⟩ := Blk.setAll [.int .i64 0, .int .i64 0, .int .i64 0] w8 cs2 (k * 3) hbg2
      refine ⟨rfl, by intro u hu; simp [Value.cells] at hu; subst hu; rfl, by simpa [Value.cells] using hcan, ?_⟩
      have ex : (Value.agg #[.int .i64 0, .int .i64 0, .int .i64 0]).cells.toList = [.int .i64 0, .int .i64 0, .int .i64 0] := rfl
      rw [ex]
      have X9 := X8.put (Nat.le_refl _) hBg2 (by decide) hbg2 p1 p2 p3
      generalize storeAll w8 ⟨g2, k * 3, none⟩ [.int .i64 0, .int .i64 0, .int .i64 0] = w9 at *
      repeat' (first | (simp (disch := omega) only [push_cast, ↓reduceIte, zA, zG, zB, zH, zI, zC, zJ, zK, zL, zD, zE, zF, zM, zN, zO, zP, zQ, reduceCtorEq, not_true_eq_false, not_false_eq_true]) | (first | refine vIfE_of ?_ ?_ | refine vIfD_of ?_ ?_ | refine vIfQ_of ?_ ?_ | refine vIfV_of ?_ ?_) <;> intro _ | refine And.intro (by omega) ?_ | refine drawn_q ?_ | fail)
      exact ⟨rfl, k + 1, by simp (disch := omega) only [push_cast, ↓reduceIte, zA, zG, zB, zH, zI, zC, zJ, zK, zL, zD, zE, zF, zM, zN, zO, zP, zQ, reduceCtorEq, not_true_eq_false, not_false_eq_true], ⟨by omega, X9⟩, by dsimp only; omega⟩
    · repeat' (first | (simp (disch := omega) only [push_cast, ↓reduceIte, zA, zG, zB, zH, zI, zC, zJ, zK, zL, zD, zE, zF, zM, zN, zO, zP, zQ, reduceCtorEq, not_true_eq_false, not_false_eq_true, f3, addr_add_eq, Nat.zero_add]) | (first | refine vIfE_of ?_ ?_ | refine vIfD_of ?_ ?_ | refine vIfQ_of ?_ ?_ | refine vIfV_of ?_ ?_) <;> intro _ | refine And.intro (by omega) ?_ | refine drawn_q ?_ | fail)
      refine ⟨rfl, i + 1, by simp (disch := omega) only [push_cast, ↓reduceIte, zA, zG, zB, zH, zI, zC, zJ, zK, zL, zD, zE, zF, zM, zN, zO, zP, zQ, reduceCtorEq, not_true_eq_false, not_false_eq_true], ⟨by omega, X8.later, fun gr' hgr' => ?_⟩, by dsimp only; omega⟩
      simp only [Option.some.injEq, Addr.mk.injEq, and_true] at hgr'
      subst hgr'
      exact ⟨hgr, X8⟩
  clear hX
  have l05 := l03.trans l5
  repeat' (first | (simp (disch := omega) only [push_cast, ↓reduceIte, zA, zG, zB, zH, zI, zC, zJ, zK, zL, zD, zE, zF, zM, zN, zO, zP, zQ, reduceCtorEq, not_true_eq_false, not_false_eq_true]) | (first | refine vIfE_of ?_ ?_ | refine vIfD_of ?_ ?_ | refine vIfQ_of ?_ ?_ | refine vIfV_of ?_ ?_) <;> intro _ | refine And.intro (by omega) ?_ | refine drawn_q ?_ | fail)
  refine (copy_c _ l w5 (hl.later l05) (hcp w5 l05) (by omega)).mono ?_
  rintro bv w6 ⟨⟨bs, hbo, hba, hbE⟩, l6⟩
  have l06 := l05.trans l6
  obtain ⟨ob, cb, rfl, _⟩ := RecS.slice (OwnR.s hbo)
  have hbd : ∀ e ∈ bs, e.d.length = d.length := fun e he => by
    have : e.abs ∈ l.map El.abs := by rw [← hba]; exact List.mem_map_of_mem he
    obtain ⟨e0, h0, h1⟩ := List.mem_map.1 this
    have h2 : e.d = e0.d := congrArg (fun r : R => r.2.1) h1.symm
    rw [h2]; exact (hr e0 h0).1
  repeat' (first | (simp (disch := omega) only [push_cast, ↓reduceIte, zA, zG, zB, zH, zI, zC, zJ, zK, zL, zD, zE, zF, zM, zN, zO, zP, zQ, reduceCtorEq, not_true_eq_false, not_false_eq_true]) | (first | refine vIfE_of ?_ ?_ | refine vIfD_of ?_ ?_ | refine vIfQ_of ?_ ?_ | refine vIfV_of ?_ ?_) <;> intro _ | refine And.intro (by omega) ?_ | refine drawn_q ?_ | fail)
  refine vc_loop W10_2 (fun i : Nat => [(12, .int .i64 (i : Int))])
    (fun i w' => i ≤ bs.length ∧ Later w5 w' ∧ ∀ gr, ob = some ⟨gr, 0, none⟩ → w5.heap.size ≤ gr ∧ XS w5 w' w5.heap.size gr bs) (fun i => bs.length - i) 0 (by decide) ?_ ?_ ?_
  · simp (disch := omega) only [push_cast, ↓reduceIte, zA, zG, zB, zH, zI, zC, zJ, zK, zL, zD, zE, zF, zM, zN, zO, zP, zQ, reduceCtorEq, not_true_eq_false, not_false_eq_true]
  · refine ⟨by omega, l6, fun gr hgr => ?_⟩
    subst hgr
    obtain ⟨g, hg, hB, _⟩ := own_writes hbo
    obtain rfl : gr = g := congrArg Addr.block hg
    have hX := XS.of hbo hbE
    exact ⟨hB, l6, hX.rows, hX.ws, hX.wa⟩
  have hbl : bs.length = l.length := by have := congrArg List.length hba; simpa using this
  rintro i uu2 w7 ⟨hi, l7, hX⟩
  by_cases hlt : i < bs.length
  · cases ob with
    | none => have h1 := SlN.len (OwnR.s hbo); have := h1.2.2.2.2 rfl; have := h1.1; omega
    | some ad =>
    obtain ⟨gr, rfl, _⟩ := own_writes hbo
    obtain ⟨hgr, X5⟩ := hX gr rfl
    clear hX
    have hzd := hbd bs[i] (List.getElem_mem _)
    obtain ⟨rs, hb, hrs⟩ := X5.rows
    obtain ⟨r1, r3, r2⟩ := hrs i hlt
    have f1 : w7.cell? ⟨gr, i * 4 + 1, none⟩ = some bs[i].dv := by rw [hb.cell]; exact r1
    have hws := X5.ws bs[i] (List.getElem_mem _)
    rcases hws with h0 | ⟨g, c, cs1, hdv, hBg, hbg, hsz⟩
    · omega
    rw [hdv] at f1
    have hce := hbg.here (p := 0) (by omega)
    have hfz := hbg.frozen 0
    repeat' (first | (simp (disch := omega) only [push_cast, ↓reduceIte, zA, zG, zB, zH, zI, zC, zJ, zK, zL, zD, zE, zF, zM, zN, zO, zP, zQ, reduceCtorEq, not_true_eq_false, not_false_eq_true, f1, hce, hfz, addr_add_eq, Nat.zero_add]) | (first | refine vIfE_of ?_ ?_ | refine vIfD_of ?_ ?_ | refine vIfQ_of ?_ ?_ | refine vIfV_of ?_ ?_) <;> intro _ | refine And.intro (by omega) ?_ | refine drawn_q ?_ | fail)
    have X6 := X5.put (Nat.le_refl _) hBg (by decide) hbg (hbg.set 0 (.string ⟨#[116, 117, 114, 110, 101, 100]⟩)) (by simp) (chg_setCell w7 (by simp) _)
    refine ⟨rfl, i + 1, by simp (disch := omega) only [push_cast, ↓reduceIte, zA, zG, zB, zH, zI, zC, zJ, zK, zL, zD, zE, zF, zM, zN, zO, zP, zQ, reduceCtorEq, not_true_eq_false, not_false_eq_true], ⟨by omega, X6.later, fun gr' hgr' => ?_⟩, by dsimp only; omega⟩
    simp only [Option.some.injEq, Addr.mk.injEq, and_true] at hgr'
    subst hgr'
    exact ⟨hgr, X6⟩
  clear hX
  have l07 := l05.trans l7
  repeat' (first | (simp (disch := omega) only [push_cast, ↓reduceIte, zA, zG, zB, zH, zI, zC, zJ, zK, zL, zD, zE, zF, zM, zN, zO, zP, zQ, reduceCtorEq, not_true_eq_false, not_false_eq_true]) | (first | refine vIfE_of ?_ ?_ | refine vIfD_of ?_ ?_ | refine vIfQ_of ?_ ?_ | refine vIfV_of ?_ ?_) <;> intro _ | refine And.intro (by omega) ?_ | refine drawn_q ?_ | fail)
  refine (alive13_c w7).mono ?_
  rintro _ w8 ⟨rfl, l8⟩
  have l08 := l07.trans l8
  have l38 : Later w3 w8 := (l5.trans l7).trans l8
  have same : ∀ K, (∀ w9, Later w8 w9 → K (.bool true) w9) → FnC Try.prog 38 #[.slice ol l.length cl, .slice oc cs.length cc] w8 K := fun K hK => by
    refine (rsame_c _ _ l cs w8 (hl.later l08) (RecS.later (OwnR.s hco) l38) (fun e he => (hes e he).is.later l08) (fun e he => (hcE e he).is.later l38)).mono ?_
    rintro _ w9 ⟨⟨t, rfl, ht⟩, l9⟩
    obtain rfl := ht.2 hca.symm
    exact hK w9 l9
  rcases hee with rfl | rfl
  · repeat' (first | (simp (disch := omega) only [push_cast, ↓reduceIte, zA, zG, zB, zH, zI, zC, zJ, zK, zL, zD, zE, zF, zM, zN, zO, zP, zQ, reduceCtorEq, not_true_eq_false, not_false_eq_true, decide_true]) | (first | refine vIfE_of ?_ ?_ | refine vIfD_of ?_ ?_ | refine vIfQ_of ?_ ?_ | refine vIfV_of ?_ ?_) <;> intro _ | refine And.intro (by omega) ?_ | refine drawn_q ?_ | fail)
    refine same _ fun w9 l9 => ?_
    repeat' (first | (simp (disch := omega) only [push_cast, ↓reduceIte, zA, zG, zB, zH, zI, zC, zJ, zK, zL, zD, zE, zF, zM, zN, zO, zP, zQ, reduceCtorEq, not_true_eq_false, not_false_eq_true]) | (first | refine vIfE_of ?_ ?_ | refine vIfD_of ?_ ?_ | refine vIfQ_of ?_ ?_ | refine vIfV_of ?_ ?_) <;> intro _ | refine And.intro (by omega) ?_ | refine drawn_q ?_ | fail)
    first | exact ⟨rfl, (l08.trans l9)⟩ | exact (l08.trans l9)
  · repeat' (first | (simp (disch := omega) only [push_cast, ↓reduceIte, zA, zG, zB, zH, zI, zC, zJ, zK, zL, zD, zE, zF, zM, zN, zO, zP, zQ, reduceCtorEq, not_true_eq_false, not_false_eq_true, decide_true]) | (first | refine vIfE_of ?_ ?_ | refine vIfD_of ?_ ?_ | refine vIfQ_of ?_ ?_ | refine vIfV_of ?_ ?_) <;> intro _ | refine And.intro (by omega) ?_ | refine drawn_q ?_ | fail)
    refine same _ fun w9 l9 => ?_
    repeat' (first | (simp (disch := omega) only [push_cast, ↓reduceIte, zA, zG, zB, zH, zI, zC, zJ, zK, zL, zD, zE, zF, zM, zN, zO, zP, zQ, reduceCtorEq, not_true_eq_false, not_false_eq_true]) | (first | refine vIfE_of ?_ ?_ | refine vIfD_of ?_ ?_ | refine vIfQ_of ?_ ?_ | refine vIfV_of ?_ ?_) <;> intro _ | refine And.intro (by omega) ?_ | refine drawn_q ?_ | fail)
    first | exact ⟨rfl, (l08.trans l9)⟩ | exact (l08.trans l9)
theorem own : ownKnob Try.prog.godebug = none := by kernel_rfl
theorem lifted (os : Os) (started : os.Started) (H : Type) (enc : TypeId × Value → H) :
    ReturnsInHanded {} Try.checked os 10 .any (Rows.rowsOwnSpec.pre6 enc Try.prog Try.f10 Rows.rowsOwnRow.domain false) (Rows.rowsOwnSpec.post enc Try.prog Try.f10 false true false false) := by
  refine lifted_later (C := Try.checked) own started (by kernel_rfl) Try.func10 hb10
    (ChangeSpec.witness6 (enc := enc) (C := Try.checked) false ⟨#[], #[.agg #[.slice none 0 0, .slice none 0 0], .slice none 0 0], []⟩ 10 (by kernel_rfl) (by kernel_rfl) (by kernel_rfl) (by kernel_rfl))
    (by kernel_rfl) (list_all (by kernel_rfl)) (by kernel_rfl) Try.underlying4 rfl ?_ ?_
  · intro ds h
    have h : ds.length = 2 := h
    match ds, h with
    | [_, _], _ => rfl
  · intro W base args ds p hval0 hA0
    have hval : ∀ (j : Nat) t v, Try.f10.params[j]? = some t → args[j]? = some v → Value.okWide Try.prog W .any base t v := hval0
    have hA : DataW.TrodAll enc Try.prog W 0 (fun _ => true) true Try.f10.params.toList args.toList ds p := hA0
    rw [Try.params10] at hA hval
    obtain ⟨v0, vs0, d0, ds0, p0, q0, hargs, rfl, rfl, h0, r0⟩ := trodAll_cons hA
    obtain ⟨v1, vs1, d1, ds1, p1, q1, rfl, rfl, rfl, h1, r1⟩ := trodAll_cons r0
    obtain ⟨rfl, rfl, rfl⟩ := trodAll_nil r1
    obtain rfl : args = #[v0, v1] := by cases args; simp_all
    obtain ⟨a0, w0⟩ := open_schema (hval 0 24 v0 rfl rfl) h0
    obtain ⟨a1, w1⟩ := open_rowsQ (hval 1 25 v1 rfl rfl) h1
    exact (by obtain ⟨rfl, hs⟩ := w0; exact law_c _ _ _ _ _ _ _ hs w1.1 w1.2)
theorem over : Rows.rowsOwnRow.holds Try.pinned (OpenSpec.ofChange Rows.rowsOwnSpec) :=
  OpenClaim.holds_of_wide 10 Try.f10 rfl rfl rfl rfl rfl rfl rfl ⟨rfl, rfl, rfl, rfl, rfl⟩ rfl rfl rfl rfl rfl (by kernel_rfl) Try.func10 (by kernel_rfl)
    (of_decide_eq_true (by kernel_rfl)) (by unfold Func.isWrapper; first | (rw [if_pos (by decide +kernel)]; kernel_rfl) | (rw [if_neg (by decide +kernel)]; exact ⟨rfl, rfl⟩))
    (fun os started H enc _ => lifted os started H enc)
/-- The statement. -/
theorem proved : Rows.RowsOwnSaid :=
  over
end Go.Proofs.Ythihbgpaoldbjaa.rowsOwn
