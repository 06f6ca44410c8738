/- What a query tells of rows: the program's Run; lists of groups held against one another. -/
import Derived.Test.YtnofalhkapmcnaaPartL
set_option linter.all false
open Nat renaming reduceEqDiff → zA, reducePow → zB, reduceMul → zC, reduceAdd → zD, reduceSub → zE, reduceLeDiff → zF
open Int renaming reduceToNat → zG, reducePow → zH, reduceNeg → zI, reduceMul → zJ, reduceAdd → zK, reduceSub → zL, reduceLT → zM, reduceLE → zN, reduceEq → zO, reduceMod → zP, reduceDiv → zQ
section
set_option linter.unusedSimpArgs false
namespace Go.Fold
open Go.Key Go.Stab Go.Proofs.Ytnofalhkapmcnaa
theorem F.idem {l out : List R} (h : F l out) : F out out := by
  refine ⟨h.srt, fun x hx => hx, fun x hx => ?_⟩
  by_cases hl : l.filter (eqv rlt x) = []
  · exact absurd (h.nil x hl) hx
  · obtain ⟨z, _, hz⟩ := h.one x hl
    exact ⟨z, by rw [hz]; rfl, hz⟩
theorem F.two {l out out' : List R} (h : F l out) (h' : F out out') : out' = out :=
  Option.some.inj (Res.one (l := out) (l' := out) (o := some out) (o' := some out') (Stb.refl _) h.idem h')
end Go.Fold
namespace Go.Proofs.Ytnofalhkapmcnaa
open Go.Vc Go.Key Go.Cub Go.Fold Go.Stab
set_option maxRecDepth 100000
theorem FinR.of_fold {m : List ByteArray} {q : QD} {w : World} {v : Value} {e : Int} {l rows : List R} (hF : F l rows) (h : FinR m q w v e rows) : FinR m q w v e l := by
  rcases h with ⟨_, _, hb⟩ | ⟨h1, gs, h2, h3, rows', h4, h5⟩
  · exact absurd hb hF.idem.ok
  · rw [hF.two h4] at h5
    exact .inr ⟨h1, gs, h2, h3, rows, hF, h5⟩
set_option maxHeartbeats 1000000 in
theorem grun_c (dv mv v : Value) (d m : List ByteArray) (q : QD) (l : List El) (w : World) (h : ScIs w dv mv d m) (hq : q.Ok w) (hT : TyQ d m q) (hl : RecS elC 4 w v l) (hes : ∀ e ∈ l, EIs w e ∧ Cr d.length m.length e) (h63 : l.length ≤ 100000) :
    FnC Try.prog 23 #[scV dv mv, .agg (qdC q).toArray, v] w fun r w' => ∃ vv e, r = .tuple #[vv, .int .i64 e] ∧ FinR m q w' vv e (grpL d q (l.map El.abs)) ∧ Later w w' := by
  have esc : scV dv mv = .agg #[dv, mv] := rfl
  rw [esc]
  obtain ⟨lo, lc, rfl, gl1, gl2⟩ := hl.slice
  refine enter23 _ _ _ ?_
  unfold B23
  have eca : (Value.agg (qdC q).toArray).cells = (qdC q).toArray := rfl
  have ecb : (Value.agg #[dv, mv]).cells = #[dv, mv] := rfl
  obtain ⟨l1, s1, F1⟩ := box2 w dv mv 24
  have B2 := Blk.new (w.alloc (.cells #[dv, mv] 24)) (qdC q).toArray 42
  have l2 := later_alloc (w.alloc (.cells #[dv, mv] 24)) (.cells (qdC q).toArray 42)
  rw [s1] at B2
  repeat' (first | (simp (disch := omega) only [push_cast, ↓reduceIte, zA, zG, zB, zH, zI, zC, zJ, zK, zL, zD, zE, zF, zM, zN, zO, zP, zQ, reduceCtorEq, eca, ecb, s1]) | refine iX ?_ ?_ <;> intro _ | refine And.intro (by omega) ?_ | fail)
  have l01 := l1.trans l2
  have FS : ∀ w', Later ((w.alloc (.cells #[dv, mv] 24)).alloc (.cells (qdC q).toArray 42)) w' → cellsAt w' ⟨w.heap.size, 0, none⟩ 2 = some [dv, mv] := fun w' hl => (F1 w' (l2.trans hl)).2.2
  clear F1 l1 l2 s1
  generalize (w.alloc (.cells #[dv, mv] 24)).alloc (.cells (qdC q).toArray 42) = w1 at *
  generalize hkq : w.heap.size = kf at *
  have QB := fun w' (hl : Later w1 w') => qdLater B2 hl
  have fq : cellsAt w1 ⟨kf + 1, 0, none⟩ 12 = some (qdC q) := Blk.cellsAt (l := qdC q) B2
  have fs := FS w1 (Later.refl _)
  repeat' (first | (simp (disch := omega) only [push_cast, ↓reduceIte, zA, zG, zB, zH, zI, zC, zJ, zK, zL, zD, zE, zF, zM, zN, zO, zP, zQ, reduceCtorEq, fq, fs]) | refine iX ?_ ?_ <;> intro _ | refine And.intro (by omega) ?_ | refine dq ?_)
  refine (gfold_c m.length dv mv _ d m q l w1 (h.later l01) (hq.later l01) (hl.later l01) (fun e he => ⟨(hes e he).1.later l01, (hes e he).2⟩) hT.bl (by have := hT.bln; omega) h63).mono ?_
  rintro _ w2 ⟨vv, er, rfl, hf, l2⟩
  have l02 := l01.trans l2
  rcases hf with ⟨rfl, rfl, hbad⟩ | ⟨rfl, es, ho, hF, hZ⟩
  · repeat' (first | (simp (disch := omega) only [push_cast, ↓reduceIte, zA, zG, zB, zH, zI, zC, zJ, zK, zL, zD, zE, zF, zM, zN, zO, zP, zQ, reduceCtorEq]) | refine iX ?_ ?_ <;> intro _ | refine And.intro (by omega) ?_ | refine dq ?_)
    exact ⟨_, _, rfl, .inl ⟨rfl, rfl, hbad⟩, l02⟩
  have hesl : es.length ≤ 100000 := by
    have h1 := hF.len
    have h2 := grpL_len d q (l.map El.abs)
    rw [List.length_map] at h1 h2
    omega
  obtain ⟨eo, ec, rfl, ge1, ge2⟩ := RecS.slice (OwnR.s ho)
  have fq2 : cellsAt w2 ⟨kf + 1, 0, none⟩ 12 = some (qdC q) := Blk.cellsAt (l := qdC q) (QB w2 l2)
  have fs2 := FS w2 l2
  repeat' (first | (simp (disch := omega) only [push_cast, ↓reduceIte, zA, zG, zB, zH, zI, zC, zJ, zK, zL, zD, zE, zF, zM, zN, zO, zP, zQ, reduceCtorEq, fq2, fs2]) | refine iX ?_ ?_ <;> intro _ | refine And.intro (by omega) ?_ | refine dq ?_)
  refine (gfinish_c q.bl.length dv mv _ d m q es w2 (h.later l02) (hq.later l02) hT (OwnR.s ho) (fun e he => ⟨(hZ e he).1.is, (hZ e he).2⟩) hesl).mono ?_
  rintro _ w3 ⟨vv, er, rfl, hf, l3⟩
  repeat' (first | (simp (disch := omega) only [push_cast, ↓reduceIte, zA, zG, zB, zH, zI, zC, zJ, zK, zL, zD, zE, zF, zM, zN, zO, zP, zQ, reduceCtorEq]) | refine iX ?_ ?_ <;> intro _ | refine And.intro (by omega) ?_ | refine dq ?_)
  exact ⟨_, _, rfl, hf.of_fold hF, l02.trans l3⟩
theorem gabs_iff (x y : Gx) : (x.d = y.d ∧ x.k = y.k ∧ x.t = y.t) ↔ x.abs = y.abs := by
  unfold Gx.abs
  simp only [Prod.mk.injEq]
  constructor
  · rintro ⟨h1, h2, h3⟩; exact ⟨h3, h1, h2⟩
  · rintro ⟨h1, h2, h3⟩; exact ⟨h2, h3, h1⟩
set_option maxHeartbeats 1000000 in
theorem gsame_c (u v : Value) (a b : List Gx) (w : World) (hu : RecS gxC 3 w u a) (hv : RecS gxC 3 w v b) (ha : ∀ e ∈ a, GxIs w e) (hb : ∀ e ∈ b, GxIs w e) : FnC Try.prog 26 #[u, v] w fun r w' => (∃ t, r = .bool t ∧ (t = true ↔ a.map Gx.abs = b.map Gx.abs)) ∧ Later w w' := by
  obtain ⟨oa, ca, rfl, g1, g2⟩ := hu.slice
  obtain ⟨ob, cb, rfl, k1, k2⟩ := hv.slice
  refine enter26 _ _ ?_
  unfold B26
  by_cases hlen : a.length = b.length
  · repeat' (first | (simp (disch := omega) only [push_cast, ↓reduceIte, zA, zG, zB, zH, zI, zC, zJ, zK, zL, zD, zE, zF, zM, zN, zO, zP, zQ, reduceCtorEq]) | refine iX ?_ ?_ <;> intro _ | refine And.intro (by omega) ?_ | refine dq ?_)
    refine vc_loop W26_0 (fun i : Nat => [(4, .bool false), (5, .int .i64 (i : Int))])
      (fun i w' => i ≤ a.length ∧ Later w w' ∧ (a.take i).map Gx.abs = (b.take i).map Gx.abs) (fun i => a.length - i) 0 (by decide) ?_ ?_ ?_
    · simp (disch := omega) only [push_cast, ↓reduceIte, zA, zG, zB, zH, zI, zC, zJ, zK, zL, zD, zE, zF, zM, zN, zO, zP, zQ, reduceCtorEq]
    · exact ⟨by omega, Later.refl _, by simp⟩
    rintro i uu w0 ⟨hi, hl, he⟩
    by_cases hia : i < a.length
    · have hib : i < b.length := by omega
      obtain ⟨aa, rfl, _⟩ := RecS.at gxC_len (hu.later hl) hia
      obtain ⟨bb, rfl, _⟩ := RecS.at gxC_len (hv.later hl) hib
      have x0 := RecS.cell gxC_len hu hia (j := 0) (x := .int .i64 (a[i]).t) rfl
      have x1 := RecS.cell gxC_len hu hia (j := 1) (x := (a[i]).dv) rfl
      have x2 := RecS.cell gxC_len hu hia (j := 2) (x := (a[i]).kv) rfl
      have y0 := RecS.cell gxC_len hv hib (j := 0) (x := .int .i64 (b[i]).t) rfl
      have y1 := RecS.cell gxC_len hv hib (j := 1) (x := (b[i]).dv) rfl
      have y2 := RecS.cell gxC_len hv hib (j := 2) (x := (b[i]).kv) rfl
      rw [addr_add_zero] at x0 y0
      have h1 := ha _ (List.getElem_mem hia)
      have h2 := hb _ (List.getElem_mem hib)
      have htk : (a.take (i + 1)).map Gx.abs = (a.take i).map Gx.abs ++ [(a[i]).abs] := by rw [take_snoc a i hia, List.map_append, List.map_singleton]
      have htk2 : (b.take (i + 1)).map Gx.abs = (b.take i).map Gx.abs ++ [(b[i]).abs] := by rw [take_snoc b i hib, List.map_append, List.map_singleton]
      have hne : (a[i]).abs ≠ (b[i]).abs → a.map Gx.abs ≠ b.map Gx.abs := fun hab e => by
        have := congrArg (fun l => l[i]?) e
        simp [hia, hib] at this
        exact hab this
      have hiff := gabs_iff a[i] b[i]
      generalize a[i] = x at *
      generalize b[i] = y at *
      have z1 := hl.cell x1
      have z2 := hl.cell y1
      repeat' (first | (simp (disch := omega) only [push_cast, ↓reduceIte, zA, zG, zB, zH, zI, zC, zJ, zK, zL, zD, zE, zF, zM, zN, zO, zP, zQ, reduceCtorEq, z1, z2]) | refine iX ?_ ?_ <;> intro _ | refine And.intro (by omega) ?_ | refine dq ?_)
      refine QFn.of hb32 (v := .bool (decide (x.d = y.d))) (fun w' hl' => texts_c _ _ x.d y.d w' (Sl.later h1.1 (hl.trans hl')) (Sl.later h2.1 (hl.trans hl'))) ?_
      repeat' (first | (simp (disch := omega) only [push_cast, ↓reduceIte, zA, zG, zB, zH, zI, zC, zJ, zK, zL, zD, zE, zF, zM, zN, zO, zP, zQ, reduceCtorEq]) | refine iX ?_ ?_ <;> intro _ | refine And.intro (by omega) ?_ | refine dq ?_)
      intro w1 hl1
      have z3 := (hl.trans hl1).cell x2
      have z4 := (hl.trans hl1).cell y2
      repeat' (first | (simp (disch := omega) only [push_cast, ↓reduceIte, zA, zG, zB, zH, zI, zC, zJ, zK, zL, zD, zE, zF, zM, zN, zO, zP, zQ, reduceCtorEq, z3, z4]) | refine iX ?_ ?_ <;> intro _ | refine And.intro (by omega) ?_ | refine dq ?_)
      refine QFn.of hb68 (v := .bool (decide (x.k = y.k))) (fun w' hl' => ints_c _ _ x.k y.k w' (Sl.later h1.2 ((hl.trans hl1).trans hl')) (Sl.later h2.2 ((hl.trans hl1).trans hl'))) ?_
      repeat' (first | (simp (disch := omega) only [push_cast, ↓reduceIte, zA, zG, zB, zH, zI, zC, zJ, zK, zL, zD, zE, zF, zM, zN, zO, zP, zQ, reduceCtorEq]) | refine iX ?_ ?_ <;> intro _ | refine And.intro (by omega) ?_ | refine dq ?_)
      intro w2 hl2
      have hl02 := (hl.trans hl1).trans hl2
      have z5 := hl02.cell x0
      have z6 := hl02.cell y0
      by_cases e1 : x.d = y.d
      · by_cases e2 : x.k = y.k
        · by_cases e3 : x.t = y.t
          · have hab := hiff.1 ⟨e1, e2, e3⟩
            have d3 : decide (x.t = y.t) = true := decide_eq_true e3
            rw [decide_eq_true e1, decide_eq_true e2]
            repeat' (first | (simp (disch := omega) only [push_cast, ↓reduceIte, zA, zG, zB, zH, zI, zC, zJ, zK, zL, zD, zE, zF, zM, zN, zO, zP, zQ, reduceCtorEq, z5, z6, d3, addr_add_zero]) | refine iX ?_ ?_ <;> intro _ | refine And.intro (by omega) ?_ | refine dq ?_)
            intro w3 hl3
            repeat' (first | (simp (disch := omega) only [push_cast, ↓reduceIte, zA, zG, zB, zH, zI, zC, zJ, zK, zL, zD, zE, zF, zM, zN, zO, zP, zQ, reduceCtorEq]) | refine iX ?_ ?_ <;> intro _ | refine And.intro (by omega) ?_ | refine dq ?_)
            refine ⟨rfl, i + 1, by simp (disch := omega) only [push_cast, ↓reduceIte, zA, zG, zB, zH, zI, zC, zJ, zK, zL, zD, zE, zF, zM, zN, zO, zP, zQ, reduceCtorEq], ⟨by omega, hl02.trans hl3, ?_⟩, by dsimp only; omega⟩
            rw [htk, htk2, he, hab]
          · have hn := hne fun h => e3 (hiff.2 h).2.2
            have d3 : decide (x.t = y.t) = false := decide_eq_false e3
            rw [decide_eq_true e1, decide_eq_true e2]
            repeat' (first | (simp (disch := omega) only [push_cast, ↓reduceIte, zA, zG, zB, zH, zI, zC, zJ, zK, zL, zD, zE, zF, zM, zN, zO, zP, zQ, reduceCtorEq, z5, z6, d3, addr_add_zero]) | refine iX ?_ ?_ <;> intro _ | refine And.intro (by omega) ?_ | refine dq ?_)
            intro w3 hl3
            repeat' (first | (simp (disch := omega) only [push_cast, ↓reduceIte, zA, zG, zB, zH, zI, zC, zJ, zK, zL, zD, zE, zF, zM, zN, zO, zP, zQ, reduceCtorEq]) | refine iX ?_ ?_ <;> intro _ | refine And.intro (by omega) ?_ | refine dq ?_)
            exact ⟨⟨false, rfl, by simp [hn]⟩, hl02.trans hl3⟩
        · have hn := hne fun h => e2 (hiff.2 h).2.1
          rw [decide_eq_true e1, decide_eq_false e2]
          repeat' (first | (simp (disch := omega) only [push_cast, ↓reduceIte, zA, zG, zB, zH, zI, zC, zJ, zK, zL, zD, zE, zF, zM, zN, zO, zP, zQ, reduceCtorEq]) | refine iX ?_ ?_ <;> intro _ | refine And.intro (by omega) ?_ | refine dq ?_)
          intro w3 hl3
          repeat' (first | (simp (disch := omega) only [push_cast, ↓reduceIte, zA, zG, zB, zH, zI, zC, zJ, zK, zL, zD, zE, zF, zM, zN, zO, zP, zQ, reduceCtorEq]) | refine iX ?_ ?_ <;> intro _ | refine And.intro (by omega) ?_ | refine dq ?_)
          exact ⟨⟨false, rfl, by simp [hn]⟩, hl02.trans hl3⟩
      · have hn := hne fun h => e1 (hiff.2 h).1
        rw [decide_eq_false e1]
        repeat' (first | (simp (disch := omega) only [push_cast, ↓reduceIte, zA, zG, zB, zH, zI, zC, zJ, zK, zL, zD, zE, zF, zM, zN, zO, zP, zQ, reduceCtorEq]) | refine iX ?_ ?_ <;> intro _ | refine And.intro (by omega) ?_ | refine dq ?_)
        intro w3 hl3
        repeat' (first | (simp (disch := omega) only [push_cast, ↓reduceIte, zA, zG, zB, zH, zI, zC, zJ, zK, zL, zD, zE, zF, zM, zN, zO, zP, zQ, reduceCtorEq]) | refine iX ?_ ?_ <;> intro _ | refine And.intro (by omega) ?_ | refine dq ?_)
        exact ⟨⟨false, rfl, by simp [hn]⟩, hl02.trans hl3⟩
    · have e : i = a.length := by omega
      subst e
      rw [List.take_length, hlen, List.take_length] at he
      repeat' (first | (simp (disch := omega) only [push_cast, ↓reduceIte, zA, zG, zB, zH, zI, zC, zJ, zK, zL, zD, zE, zF, zM, zN, zO, zP, zQ, reduceCtorEq]) | refine iX ?_ ?_ <;> intro _ | refine And.intro (by omega) ?_ | refine dq ?_)
      exact ⟨⟨true, rfl, by simp [he]⟩, hl⟩
  · have hne : a.map Gx.abs ≠ b.map Gx.abs := fun e => by
      have := congrArg List.length e
      simp at this
      exact hlen this
    repeat' (first | (simp (disch := omega) only [push_cast, ↓reduceIte, zA, zG, zB, zH, zI, zC, zJ, zK, zL, zD, zE, zF, zM, zN, zO, zP, zQ, reduceCtorEq]) | refine iX ?_ ?_ <;> intro _ | refine And.intro (by omega) ?_ | refine dq ?_)
    exact ⟨⟨false, rfl, by simp [hne]⟩, Later.refl _⟩
end Go.Proofs.Ytnofalhkapmcnaa
end
section
set_option linter.unusedSimpArgs false
namespace Go.Vc
theorem RecS.of_blk {α : Type} {enc : α → List Value} {k : Nat} (hk : ∀ x, (enc x).length = k) {w : World} {b : Nat} {e : TypeId} {l : List α} (h : Blk w b ((l.map enc).flatten).toArray e) (hl : l.length ≤ 1000000) : RecS enc k w (.slice (some ⟨b, 0, none⟩) l.length l.length) l := by
  refine SlN.mk (rec_flat hk l) (Nat.le_refl _) (by unfold maxLen; omega) (fun h => by cases h) (fun a ha i x hx => ?_)
  simp only [Option.some.injEq] at ha
  subst ha
  rw [addr_add_eq, Nat.zero_add, h.cell]
  simpa using hx
end Go.Vc
namespace Go.Proofs.Ytnofalhkapmcnaa
open Go.Vc Go.Key Go.Cub Go.Fold Go.Stab
set_option maxRecDepth 100000
def gA : ByteArray := ⟨#[97]⟩
def gM : ByteArray := ⟨#[109]⟩
def gX : ByteArray := ⟨#[120]⟩
def gY : ByteArray := ⟨#[121]⟩
def q25 (tv bv : Value) : QD := ⟨tv, [⟨0, ⟨#[]⟩⟩, ⟨3, gM⟩], 0, 20, 0, bv, [gA], .mk 0 ⟨#[]⟩ ⟨#[]⟩ (.slice none 0 0) [], .slice none 0 0, [], -2, 0⟩
def rows25 : List R := [(3, [gX], 2, [(5, 1, 4)]), (12, [gY], 1, [(9, 9, 9)]), (15, [gX], 1, [(1, 1, 1)])]
def gr25 : List R := [(0, [gX], 2, [(5, 1, 4)]), (0, [gY], 1, [(9, 9, 9)]), (0, [gX], 1, [(1, 1, 1)])]
theorem grp25 (tv bv : Value) : grpL [gA] (q25 tv bv) rows25 = gr25 := by kernel_rfl
def out25 : List R := [(0, [gX], 3, [(6, 1, 4)]), (0, [gY], 1, [(9, 9, 9)])]
theorem fold25 : F gr25 out25 := by
  have h1 : F [(0, [gX], 2, [(5, 1, 4)])] [(0, [gX], 2, [(5, 1, 4)])] := F.add (l := []) (A := []) (B := []) (r := (0, [gX], 2, [(5, 1, 4)])) F.start (by simp) (by simp)
  have h2 := F.add (l := [(0, [gX], 2, [(5, 1, 4)])]) (A := [(0, [gX], 2, [(5, 1, 4)])]) (B := []) (r := (0, [gY], 1, [(9, 9, 9)])) h1 (by intro b hb; rw [List.mem_singleton.1 hb]; decide +kernel) (by simp)
  exact (F.join (l := [(0, [gX], 2, [(5, 1, 4)]), (0, [gY], 1, [(9, 9, 9)])]) (A := []) (B := [(0, [gY], 1, [(9, 9, 9)])]) (b := (0, [gX], 2, [(5, 1, 4)])) (r := (0, [gX], 1, [(1, 1, 1)])) h2 ⟨rfl, rfl⟩).2 (0, [gX], 3, [(6, 1, 4)]) (by rfl)
def gs25 : List GR := [(0, [gX], [3, 4]), (0, [gY], [1, 9])]
theorem grs25 (tv bv : Value) : grsL [gM] (q25 tv bv) out25 = gs25 := by kernel_rfl
theorem fin25 {tv bv : Value} {gs : List GR} (h : FinL [gM] (q25 tv bv) gr25 gs) : gs = [(0, [gY], [1, 9]), (0, [gX], [3, 4])] := by
  obtain ⟨rows, h1, s, h2, h3, h4⟩ := h
  have hr : rows = out25 := Option.some.inj (Res.one (l := gr25) (l' := gr25) (o := some out25) (o' := some rows) (Stb.refl _) fold25 h1)
  rw [hr, grs25] at h3
  have h5 : gs = s := h4
  rw [h5]
  have hod : (q25 tv bv).od = -2 := rfl
  rw [hod] at h2 h3
  have h6 : Stb (rglt (-2)) gs25 ([(0, [gY], [1, 9])] ++ [(0, [gX], [3, 4])]) := Stb.swap (rglt_swo _) (u := [(0, [gX], [3, 4])]) (v := [(0, [gY], [1, 9])]) (by
    intro a ha b hb
    rw [List.mem_singleton.1 ha, List.mem_singleton.1 hb]
    decide +kernel)
  refine one_way (rglt_swo (-2)) (l := [(0, [gY], [1, 9]), (0, [gX], [3, 4])]) ?_ h2 fun x => ?_
  · unfold Srt
    refine List.Pairwise.cons (fun b hb => ?_) (List.Pairwise.cons (by simp) List.Pairwise.nil)
    rw [List.mem_singleton.1 hb]
    decide +kernel
  · rw [h3.2, ← h6.2]; rfl
theorem ty25 (tv bv : Value) : TyQ [gA] [gM] (q25 tv bv) := by
  refine ⟨fun n hn => hn, by show 1 ≤ 6; omega, fun t ht => ?_, by show 2 ≤ 8; omega, fun t ht => (by cases ht), by show (-2 : Int).natAbs ≤ 2; decide, by show (0 : Int) ≤ 0; omega⟩
  have ht : t ∈ [(⟨0, ⟨#[]⟩⟩ : TD), ⟨3, gM⟩] := ht
  simp only [List.mem_cons, List.not_mem_nil, or_false] at ht
  rcases ht with rfl | rfl
  · exact ⟨by decide, by decide, fun h => absurd rfl h⟩
  · exact ⟨by decide, by decide, fun _ => List.mem_singleton.2 rfl⟩
set_option maxHeartbeats 2000000 in
theorem alive25_c (w : World) : FnC Try.prog 22 #[] w fun v w' => v = .bool true ∧ Later w w' := by
  refine enter22 ?_
  unfold B22
  have ea : (⟨#[97]⟩ : ByteArray) = gA := rfl
  have em : (⟨#[109]⟩ : ByteArray) = gM := rfl
  have ex : (⟨#[120]⟩ : ByteArray) = gX := rfl
  have ey : (⟨#[121]⟩ : ByteArray) = gY := rfl
  repeat' (first | (simp (disch := omega) only [push_cast, ↓reduceIte, zA, zG, zB, zH, zI, zC, zJ, zK, zL, zD, zE, zF, zM, zN, zO, zP, zQ, reduceCtorEq, ea, em, ex, ey]) | refine iX ?_ ?_ <;> intro _ | refine And.intro (by omega) ?_ | refine dq ?_)
  refine vStore_new rfl rfl (by intro u hu; simp at hu; rcases hu with rfl | rfl <;> rfl) ?_
  have l1 := later_alloc w (.cells #[.string gA] 9)
  have B1 := Blk.new w #[.string gA] 9
  generalize w.alloc (.cells #[.string gA] 9) = w1 at *
  have l2 := later_alloc w1 (.cells #[.string gM] 9)
  have B2 := Blk.new w1 #[.string gM] 9
  generalize w1.alloc (.cells #[.string gM] 9) = w2 at *
  have l3 := later_alloc w2 (.cells #[.slice (some ⟨w.heap.size, 0, none⟩) 1 1, .slice (some ⟨w1.heap.size, 0, none⟩) 1 1] 24)
  have B3 := Blk.new w2 #[.slice (some ⟨w.heap.size, 0, none⟩) 1 1, .slice (some ⟨w1.heap.size, 0, none⟩) 1 1] 24
  generalize w2.alloc (.cells #[.slice (some ⟨w.heap.size, 0, none⟩) 1 1, .slice (some ⟨w1.heap.size, 0, none⟩) 1 1] 24) = w3 at *
  repeat' (first | (simp (disch := omega) only [push_cast, ↓reduceIte, zA, zG, zB, zH, zI, zC, zJ, zK, zL, zD, zE, zF, zM, zN, zO, zP, zQ, reduceCtorEq, ea, em, ex, ey]) | refine iX ?_ ?_ <;> intro _ | refine And.intro (by omega) ?_ | refine dq ?_)
  refine vStore_new rfl rfl (by intro u hu; simp at hu; rcases hu with rfl | rfl | rfl | rfl | rfl | rfl | rfl | rfl | rfl | rfl | rfl | rfl <;> rfl) ?_
  have l4 := later_alloc w3 (.cells #[.string gX] 9)
  have B4 := Blk.new w3 #[.string gX] 9
  generalize w3.alloc (.cells #[.string gX] 9) = w4 at *
  have l5 := later_alloc w4 (.cells #[.int .i64 5, .int .i64 1, .int .i64 4] 111)
  have B5 := Blk.new w4 #[.int .i64 5, .int .i64 1, .int .i64 4] 111
  generalize w4.alloc (.cells #[.int .i64 5, .int .i64 1, .int .i64 4] 111) = w5 at *
  have l6 := later_alloc w5 (.cells #[.string gY] 9)
  have B6 := Blk.new w5 #[.string gY] 9
  generalize w5.alloc (.cells #[.string gY] 9) = w6 at *
  have l7 := later_alloc w6 (.cells #[.int .i64 9, .int .i64 9, .int .i64 9] 111)
  have B7 := Blk.new w6 #[.int .i64 9, .int .i64 9, .int .i64 9] 111
  generalize w6.alloc (.cells #[.int .i64 9, .int .i64 9, .int .i64 9] 111) = w7 at *
  have l8 := later_alloc w7 (.cells #[.string gX] 9)
  have B8 := Blk.new w7 #[.string gX] 9
  generalize w7.alloc (.cells #[.string gX] 9) = w8 at *
  have l9 := later_alloc w8 (.cells #[.int .i64 1, .int .i64 1, .int .i64 1] 111)
  have B9 := Blk.new w8 #[.int .i64 1, .int .i64 1, .int .i64 1] 111
  generalize w8.alloc (.cells #[.int .i64 1, .int .i64 1, .int .i64 1] 111) = w9 at *
  have l10 := later_alloc w9 (.cells #[.int .i64 3, .slice (some ⟨w3.heap.size, 0, none⟩) 1 1, .int .i64 2, .slice (some ⟨w4.heap.size, 0, none⟩) 1 1, .int .i64 12, .slice (some ⟨w5.heap.size, 0, none⟩) 1 1, .int .i64 1, .slice (some ⟨w6.heap.size, 0, none⟩) 1 1, .int .i64 15, .slice (some ⟨w7.heap.size, 0, none⟩) 1 1, .int .i64 1, .slice (some ⟨w8.heap.size, 0, none⟩) 1 1] 72)
  have B10 := Blk.new w9 #[.int .i64 3, .slice (some ⟨w3.heap.size, 0, none⟩) 1 1, .int .i64 2, .slice (some ⟨w4.heap.size, 0, none⟩) 1 1, .int .i64 12, .slice (some ⟨w5.heap.size, 0, none⟩) 1 1, .int .i64 1, .slice (some ⟨w6.heap.size, 0, none⟩) 1 1, .int .i64 15, .slice (some ⟨w7.heap.size, 0, none⟩) 1 1, .int .i64 1, .slice (some ⟨w8.heap.size, 0, none⟩) 1 1] 72
  generalize w9.alloc (.cells #[.int .i64 3, .slice (some ⟨w3.heap.size, 0, none⟩) 1 1, .int .i64 2, .slice (some ⟨w4.heap.size, 0, none⟩) 1 1, .int .i64 12, .slice (some ⟨w5.heap.size, 0, none⟩) 1 1, .int .i64 1, .slice (some ⟨w6.heap.size, 0, none⟩) 1 1, .int .i64 15, .slice (some ⟨w7.heap.size, 0, none⟩) 1 1, .int .i64 1, .slice (some ⟨w8.heap.size, 0, none⟩) 1 1] 72) = w10 at *
  have l11 := later_alloc w10 (.cells #[.int .i64 0, .string ⟨#[]⟩, .int .i64 3, .string gM] 63)
  have B11 := Blk.new w10 #[.int .i64 0, .string ⟨#[]⟩, .int .i64 3, .string gM] 63
  generalize w10.alloc (.cells #[.int .i64 0, .string ⟨#[]⟩, .int .i64 3, .string gM] 63) = w11 at *
  have l12 := later_alloc w11 (.cells #[.string gA] 9)
  have B12 := Blk.new w11 #[.string gA] 9
  generalize w11.alloc (.cells #[.string gA] 9) = w12 at *
  obtain ⟨q, hq⟩ : ∃ q, q = q25 (.slice (some ⟨w10.heap.size, 0, none⟩) 2 2) (.slice (some ⟨w11.heap.size, 0, none⟩) 1 1) := ⟨_, rfl⟩
  have l13 := later_alloc w12 (.cells #[.slice (some ⟨w10.heap.size, 0, none⟩) 2 2, .int .i64 0, .int .i64 20, .int .i64 0, .slice (some ⟨w11.heap.size, 0, none⟩) 1 1, .int .i64 0, .string ⟨#[]⟩, .string ⟨#[]⟩, .slice none 0 0, .slice none 0 0, .int .i64 (-2), .int .i64 0] 42)
  have B13 := Blk.new w12 #[.slice (some ⟨w10.heap.size, 0, none⟩) 2 2, .int .i64 0, .int .i64 20, .int .i64 0, .slice (some ⟨w11.heap.size, 0, none⟩) 1 1, .int .i64 0, .string ⟨#[]⟩, .string ⟨#[]⟩, .slice none 0 0, .slice none 0 0, .int .i64 (-2), .int .i64 0] 42
  generalize w12.alloc (.cells #[.slice (some ⟨w10.heap.size, 0, none⟩) 2 2, .int .i64 0, .int .i64 20, .int .i64 0, .slice (some ⟨w11.heap.size, 0, none⟩) 1 1, .int .i64 0, .string ⟨#[]⟩, .string ⟨#[]⟩, .slice none 0 0, .slice none 0 0, .int .i64 (-2), .int .i64 0] 42) = w13 at *
  obtain ⟨e1, he1⟩ : ∃ e1 : El, e1 = ⟨3, [gX], 2, [(5, 1, 4)], .slice (some ⟨w3.heap.size, 0, none⟩) 1 1, .slice (some ⟨w4.heap.size, 0, none⟩) 1 1⟩ := ⟨_, rfl⟩
  obtain ⟨e2, he2⟩ : ∃ e2 : El, e2 = ⟨12, [gY], 1, [(9, 9, 9)], .slice (some ⟨w5.heap.size, 0, none⟩) 1 1, .slice (some ⟨w6.heap.size, 0, none⟩) 1 1⟩ := ⟨_, rfl⟩
  obtain ⟨e3, he3⟩ : ∃ e3 : El, e3 = ⟨15, [gX], 1, [(1, 1, 1)], .slice (some ⟨w7.heap.size, 0, none⟩) 1 1, .slice (some ⟨w8.heap.size, 0, none⟩) 1 1⟩ := ⟨_, rfl⟩
  have hR : RecS elC 4 w10 (.slice (some ⟨w9.heap.size, 0, none⟩) 3 3) [e1, e2, e3] := RecS.of_blk (l := [e1, e2, e3]) elC_len (by rw [he1, he2, he3]; exact B10) (by simp)
  have hab : [e1, e2, e3].map El.abs = rows25 := by rw [he1, he2, he3]; rfl
  have la : Later w10 w13 := (l11.trans l12).trans l13
  have l9a : Later w9 w13 := l10.trans la
  have l8a : Later w8 w13 := l9.trans l9a
  have l7a : Later w7 w13 := l8.trans l8a
  have l6a : Later w6 w13 := l7.trans l7a
  have l5a : Later w5 w13 := l6.trans l6a
  have l4a : Later w4 w13 := l5.trans l5a
  have l3a : Later w3 w13 := l4.trans l4a
  have l2a : Later w2 w13 := l3.trans l3a
  have l1a : Later w1 w13 := l2.trans l2a
  have l0a : Later w w13 := l1.trans l1a
  have st : ∀ {u k x}, Later u w13 → Blk u k #[.string x] 9 → StS w13 (.slice (some ⟨k, 0, none⟩) 1 1) [x] := fun hl hb => Sl.later (Sl.of_blk (xs := [.string _]) hb rfl (by unfold maxLen; omega)) hl
  have sa : ∀ {u k} {a : Ag}, Later u w13 → Blk u k #[.int .i64 a.1, .int .i64 a.2.1, .int .i64 a.2.2] 111 → AgS w13 (.slice (some ⟨k, 0, none⟩) 1 1) [a] := fun {_ _ a} hl hb => RecS.later (RecS.of_blk (l := [a]) agC_len hb (by simp)) hl
  have i1 : EIs w13 e1 := by rw [he1]; exact ⟨st l4a B4, sa (a := (5, 1, 4)) l5a B5⟩
  have i2 : EIs w13 e2 := by rw [he2]; exact ⟨st l6a B6, sa (a := (9, 9, 9)) l7a B7⟩
  have i3 : EIs w13 e3 := by rw [he3]; exact ⟨st l8a B8, sa (a := (1, 1, 1)) l9a B9⟩
  have hz : ∀ s : ByteArray, s.size = 1 → StZ [s] := fun s hs x hx => by rw [List.mem_singleton.1 hx, hs]; omega
  have hS : ScIs w13 (.slice (some ⟨w.heap.size, 0, none⟩) 1 1) (.slice (some ⟨w1.heap.size, 0, none⟩) 1 1) [gA] [gM] := ⟨st l1a B1, st l2a B2, hz _ rfl, hz _ rfl⟩
  have hT := RecS.later (RecS.of_blk (l := [(⟨0, ⟨#[]⟩⟩ : TD), ⟨3, gM⟩]) tdC_len B11 (by simp)) (l12.trans l13)
  have hBv := st (l12.trans l13 |> fun _ => l13) B12
  have hQ : q.Ok w13 := by
    rw [hq]
    have z1 : I64 0 := by decide
    have z2 : I64 20 := by decide
    have z3 : I64 (-2) := by decide
    have z4 : (0 : Nat) ≤ 140737488351232 := by decide
    have zf : (q25 (.slice (some ⟨w10.heap.size, 0, none⟩) 2 2) (.slice (some ⟨w11.heap.size, 0, none⟩) 1 1)).wh.Ok w13 := FT.ok_iff.2 ⟨z1, z4, z4, RecS.nil _, fun k hk => (by cases hk)⟩
    refine ⟨hT, fun t ht => ?_, z1, z2, z1, hBv, fun s hs => ?_, zf, RecS.nil _, fun t ht => (by cases ht), z3, z1⟩
    · simp only [q25, List.mem_cons, List.not_mem_nil, or_false] at ht
      rcases ht with rfl | rfl
      · exact ⟨by decide, by decide⟩
      · exact ⟨by decide, by decide⟩
    · have hs : s ∈ [gA] := hs
      rw [List.mem_singleton.1 hs]; decide
  have f1 : cellsAt w13 ⟨w2.heap.size, 0, none⟩ 2 = some [.slice (some ⟨w.heap.size, 0, none⟩) 1 1, .slice (some ⟨w1.heap.size, 0, none⟩) 1 1] := cellsAt_later l3a _ (Blk.cellsAt (l := [.slice (some ⟨w.heap.size, 0, none⟩) 1 1, .slice (some ⟨w1.heap.size, 0, none⟩) 1 1]) B3)
  have f2 : cellsAt w13 ⟨w12.heap.size, 0, none⟩ 12 = some (qdC q) := by rw [hq]; exact Blk.cellsAt (l := qdC (q25 _ _)) B13
  have hTy : TyQ [gA] [gM] q := by rw [hq]; exact ty25 _ _
  have hgr : grpL [gA] q rows25 = gr25 := by rw [hq]; exact grp25 _ _
  have hfin : ∀ {gs}, FinL [gM] q gr25 gs → gs = [(0, [gY], [1, 9]), (0, [gX], [3, 4])] := by rw [hq]; exact fin25
  have cr : ∀ (t n : Int) (x : ByteArray) (a : Ag) (dv av : Value), 1 ≤ n → n ≤ 1048576 → ARt a → 0 ≤ t → t ≤ 1099511627776 → Cr 1 1 ⟨t, [x], n, [a], dv, av⟩ := fun t n x a dv av h1 h2 h3 h4 h5 => ⟨⟨h1, h2, fun b hb => by
    have hb : b ∈ [a] := hb
    rw [List.mem_singleton.1 hb]; exact h3, rfl, rfl, by decide, by decide⟩, h4, h5⟩
  have c1 : Cr 1 1 e1 := by rw [he1]; exact cr _ _ _ _ _ _ (by decide) (by decide) (by decide) (by decide) (by decide)
  have c2 : Cr 1 1 e2 := by rw [he2]; exact cr _ _ _ _ _ _ (by decide) (by decide) (by decide) (by decide) (by decide)
  have c3 : Cr 1 1 e3 := by rw [he3]; exact cr _ _ _ _ _ _ (by decide) (by decide) (by decide) (by decide) (by decide)
  have hR13 := RecS.later hR la
  clear he1 he2 he3 hq B1 B2 B3 B4 B5 B6 B7 B8 B9 B10 B11 B12 B13 hR hT hBv st sa cr hz
  repeat' (first | (simp (disch := omega) only [push_cast, ↓reduceIte, zA, zG, zB, zH, zI, zC, zJ, zK, zL, zD, zE, zF, zM, zN, zO, zP, zQ, reduceCtorEq, f1, f2]) | refine iX ?_ ?_ <;> intro _ | refine And.intro (by omega) ?_ | refine dq ?_)
  refine (grun_c _ _ _ [gA] [gM] q [e1, e2, e3] w13 hS hQ hTy hR13 (fun e he => ?_) (by simp)).mono ?_
  · simp only [List.mem_cons, List.not_mem_nil, or_false] at he
    rcases he with rfl | rfl | rfl
    · exact ⟨i1, c1⟩
    · exact ⟨i2, c2⟩
    · exact ⟨i3, c3⟩
  rintro _ w14 ⟨vv, e, rfl, hf, l14⟩
  rw [hab, hgr] at hf
  have l014 := l0a.trans l14
  clear l1 l2 l3 l4 l5 l6 l7 l8 l9 l10 l11 l12 l13 la l9a l8a l7a l6a l5a l4a l3a l2a l1a l0a f1 f2 hS hQ hTy hR13 i1 i2 i3 c1 c2 c3
  rcases hf with ⟨_, _, hb⟩ | ⟨rfl, gs, hG, hI, hL⟩
  · exact absurd hb fold25.ok
  have hgs := hfin hL
  obtain ⟨g1, g2, rfl⟩ : ∃ g1 g2, gs = [g1, g2] := by
    have := congrArg List.length hgs
    rw [List.length_map] at this
    match gs, this with
    | [g1, g2], _ => exact ⟨g1, g2, rfl⟩
  simp only [List.map_cons, List.map_nil, List.cons.injEq, and_true] at hgs
  have hd1 : g1.d = [gY] := congrArg (fun r : GR => r.2.1) hgs.1
  have hk2 : g2.k = [3, 4] := congrArg (fun r : GR => r.2.2) hgs.2
  obtain ⟨oo, oc, rfl, _⟩ := RecS.slice hG
  obtain ⟨a, rfl, _⟩ := RecS.at gxC_len hG (i := 0) (by simp)
  have f1 := RecS.cell gxC_len hG (i := 0) (j := 1) (by simp) (x := g1.dv) rfl
  have f2 := RecS.cell gxC_len hG (i := 1) (j := 2) (by simp) (x := g2.kv) rfl
  have s1 := (hI g1 (by simp)).1
  have s2 := (hI g2 (by simp)).2
  rw [hd1] at s1
  rw [hk2] at s2
  obtain ⟨o1, c1, hv1, _, _, s1, _⟩ := Sl.openM s1
  obtain ⟨o2, c2, hv2, _, _, s2, _⟩ := Sl.openM s2
  rw [hv1] at f1
  rw [hv2] at f2
  obtain ⟨a1, rfl⟩ := s1.some (i := 0) (by simp)
  obtain ⟨a2, rfl⟩ := s2.some (i := 0) (by simp)
  have k1 := StS.atS s1 (i := 0) (by simp)
  have k2 := s2.atI (i := 0) (by simp)
  have k3 := s2.atI (i := 1) (by simp)
  rw [Nat.zero_mul, addr_add_zero] at f1
  rw [addr_add_zero] at k1 k2
  have k1 : w14.cell? a1 = some (.string gY) := k1
  have k2 : w14.cell? a2 = some (.int .i64 3) := k2
  have k3 : w14.cell? (a2.add 1) = some (.int .i64 4) := k3
  repeat' (first | (simp (disch := omega) only [push_cast, ↓reduceIte, zA, zG, zB, zH, zI, zC, zJ, zK, zL, zD, zE, zF, zM, zN, zO, zP, zQ, reduceCtorEq, ey, f1, f2, k1, k2, k3, List.length_cons, List.length_nil, addr_add_zero, decide_true]) | refine iX ?_ ?_ <;> intro _ | refine And.intro (by omega) ?_ | refine dq ?_)
  first | exact ⟨rfl, l014⟩ | exact l014
end Go.Proofs.Ytnofalhkapmcnaa
end
section
namespace Go.Fold
open Go.Key Go.Stab Go.Proofs.Ytnofalhkapmcnaa
abbrev Vl := Int × List Ag
def vl (r : R) : Vl := (r.2.2.1, r.2.2.2)
def jv (x y : Vl) : Vl := (x.1 + y.1, List.zipWith ajn x.2 y.2)
theorem ajn_comm (a b : Ag) : ajn a b = ajn b a := by
  unfold ajn
  rw [Int.add_comm, Int.min_comm, Int.max_comm]
theorem ajn_assoc (a b c : Ag) : ajn (ajn a b) c = ajn a (ajn b c) := by
  unfold ajn
  simp only [Prod.mk.injEq]
  exact ⟨Int.add_assoc _ _ _, Int.min_assoc _ _ _, Int.max_assoc _ _ _⟩
theorem zip_comm : ∀ (x y : List Ag), List.zipWith ajn x y = List.zipWith ajn y x
  | [], [] => rfl
  | [], _ :: _ => rfl
  | _ :: _, [] => rfl
  | a :: x, b :: y => by simp only [List.zipWith_cons_cons]; rw [ajn_comm, zip_comm x y]
theorem zip_assoc : ∀ (x y z : List Ag), List.zipWith ajn (List.zipWith ajn x y) z = List.zipWith ajn x (List.zipWith ajn y z)
  | [], _, _ => by simp
  | _ :: _, [], _ => by simp
  | _ :: _, _ :: _, [] => by simp
  | a :: x, b :: y, c :: z => by simp only [List.zipWith_cons_cons]; rw [ajn_assoc, zip_assoc x y z]
theorem jv_comm (x y : Vl) : jv x y = jv y x := by unfold jv; rw [Int.add_comm, zip_comm]
theorem jv_assoc (x y z : Vl) : jv (jv x y) z = jv x (jv y z) := by
  unfold jv
  dsimp only
  rw [Int.add_assoc, zip_assoc]
def oj : Option Vl → Option Vl → Option Vl
  | none, o => o
  | some x, none => some x
  | some x, some y => some (jv x y)
theorem oj_none (o : Option Vl) : oj o none = o := by cases o <;> rfl
theorem oj_comm (o p : Option Vl) : oj o p = oj p o := by
  cases o with
  | none => rw [oj_none]; rfl
  | some x =>
    cases p with
    | none => rfl
    | some y => show some (jv x y) = some (jv y x); rw [jv_comm]
theorem oj_assoc (o p q : Option Vl) : oj (oj o p) q = oj o (oj p q) := by
  cases o with
  | none => rfl
  | some x =>
    cases p with
    | none => cases q <;> rfl
    | some y =>
      cases q with
      | none => rfl
      | some z => show some (jv (jv x y) z) = some (jv x (jv y z)); rw [jv_assoc]
def msum : List R → Option Vl
  | [] => none
  | r :: l => oj (some (vl r)) (msum l)
theorem msum_app (a b : List R) : msum (a ++ b) = oj (msum a) (msum b) := by
  induction a with
  | nil => rfl
  | cons r a ih => show oj _ (msum (a ++ b)) = oj (oj _ _) _; rw [ih, oj_assoc]
theorem msum_perm {a b : List R} (h : a.Perm b) : msum a = msum b := by
  induction h with
  | nil => rfl
  | cons r _ ih => show oj _ _ = oj _ _; rw [ih]
  | swap r s l => show oj _ (oj _ _) = oj _ (oj _ _); rw [← oj_assoc, ← oj_assoc, oj_comm (some (vl s))]
  | trans _ _ ih1 ih2 => rw [ih1, ih2]
theorem jaggs_zip : ∀ (x y l : List Ag), jaggs x y = some l → l = List.zipWith ajn x y
  | [], _, l, h => by simp [jaggs] at h; simp [h]
  | _ :: _, [], _, h => by simp [jaggs] at h
  | a :: x, b :: y, l, h => by
    simp only [jaggs] at h
    split at h
    · obtain ⟨t, ht, rfl⟩ := Option.map_eq_some_iff.1 h
      rw [jaggs_zip x y t ht]; rfl
    · cases h
theorem jn_vl {x y z : R} (h : jn x y = some z) : vl z = jv (vl x) (vl y) := by
  unfold jn at h
  split at h
  · cases h
  · obtain ⟨l, hl, rfl⟩ := Option.map_eq_some_iff.1 h
    unfold vl jv
    dsimp only
    rw [jaggs_zip _ _ _ hl]
theorem fold_vl : ∀ (t : List R) (r z : R), t.foldl (fun o s => o.bind (jn · s)) (some r) = some z → oj (some (vl r)) (msum t) = some (vl z)
  | [], r, z, h => by
    have h : some r = some z := h
    cases h; rfl
  | s :: t, r, z, h => by
    have h : t.foldl (fun o s => o.bind (jn · s)) (jn r s) = some z := h
    cases hj : jn r s with
    | none => rw [hj, foldl_none] at h; cases h
    | some y =>
      rw [hj] at h
      have := fold_vl t y z h
      show oj _ (oj _ _) = _
      rw [← oj_assoc]
      have e : oj (some (vl r)) (some (vl s)) = some (vl y) := by rw [jn_vl hj]; rfl
      rw [e]; exact this
theorem jfold_vl {c : List R} {z : R} (h : jfold c = some z) : msum c = some (vl z) := by
  cases c with
  | nil => cases h
  | cons r t => exact fold_vl t r z h
theorem F.msum {l out : List R} (h : F l out) (x : R) : msum (out.filter (eqv rlt x)) = msum (l.filter (eqv rlt x)) := by
  by_cases hl : l.filter (eqv rlt x) = []
  · rw [h.nil x hl, hl]
  · obtain ⟨z, h1, h2⟩ := h.one x hl
    rw [h2, jfold_vl h1]; rfl
theorem F.parts {X A B rows ma nb out : List R} (hp : X.Perm (A ++ B)) (hX : F X rows) (hA : F A ma) (hB : F B nb) (hY : F (ma ++ nb) out) : out = rows := by
  refine one_way rlt_swo (List.Pairwise.imp (fun hab => rlt_swo.asym _ _ hab) hX.srt) (List.Pairwise.imp (fun hab => rlt_swo.asym _ _ hab) hY.srt) fun x => ?_
  have hc : (X.filter (eqv rlt x)).Perm (A.filter (eqv rlt x) ++ B.filter (eqv rlt x)) := by
    rw [← List.filter_append]; exact hp.filter _
  have e1 : Go.Fold.msum (X.filter (eqv rlt x)) = Go.Fold.msum ((ma ++ nb).filter (eqv rlt x)) := by
    rw [msum_perm hc, msum_app, List.filter_append, msum_app, hA.msum, hB.msum]
  by_cases h0 : X.filter (eqv rlt x) = []
  · rw [hX.nil x h0]
    rw [h0] at hc
    have h1 := hc.length_eq
    rw [List.length_append, List.length_nil] at h1
    have hA0 : A.filter (eqv rlt x) = [] := List.length_eq_zero_iff.1 (by omega)
    have hB0 : B.filter (eqv rlt x) = [] := List.length_eq_zero_iff.1 (by omega)
    refine hY.nil x ?_
    rw [List.filter_append, hA.nil x hA0, hB.nil x hB0]; rfl
  · obtain ⟨z, z1, z2⟩ := hX.one x h0
    have hY0 : (ma ++ nb).filter (eqv rlt x) ≠ [] := by
      intro he
      rw [he, jfold_vl z1] at e1
      cases e1
    obtain ⟨y, y1, y2⟩ := hY.one x hY0
    rw [z2, y2]
    have hz : Same x z := eqv_same.1 (List.mem_filter.1 (show z ∈ rows.filter (eqv rlt x) by rw [z2]; simp)).2
    have hy : Same x y := eqv_same.1 (List.mem_filter.1 (show y ∈ out.filter (eqv rlt x) by rw [y2]; simp)).2
    rw [jfold_vl z1, jfold_vl y1] at e1
    have e2 : vl z = vl y := Option.some.inj e1
    unfold vl at e2
    simp only [Prod.mk.injEq] at e2
    have : y = z := Prod.ext (hy.1.symm.trans hz.1) (Prod.ext (hy.2.symm.trans hz.2) (Prod.ext e2.1.symm e2.2.symm))
    rw [this]
end Go.Fold
namespace Go.Proofs.Ytnofalhkapmcnaa
open Go.Vc Go.Key Go.Cub Go.Fold Go.Stab
theorem FinL.one {m : List ByteArray} {q : QD} {X Y : List R} {gs gs' : List GR} (h : FinL m q X gs) (h' : FinL m q Y gs') (hr : ∀ rows out, F X rows → F Y out → out = rows) : gs' = gs := by
  obtain ⟨rows, h1, s, h2, h3, h4⟩ := h
  obtain ⟨rows', g1, s', g2, g3, g4⟩ := h'
  rw [hr rows rows' h1 g1] at g3
  have : s' = s := one_way (rglt_swo _) h2 g2 fun x => by rw [g3.2, h3.2]
  rw [h4, g4, this]
theorem grpL_perm (d : List ByteArray) (q : QD) {a b : List R} (h : a.Perm b) : (grpL d q a).Perm (grpL d q b) := by
  unfold grpL
  exact (h.filter _).map _
end Go.Proofs.Ytnofalhkapmcnaa
end
section
set_option linter.unusedSimpArgs false
namespace Go.Proofs.Ytnofalhkapmcnaa
open Go.Vc Go.Key Go.Cub Go.Fold Go.Stab
set_option maxRecDepth 100000
def f25 (d m : List ByteArray) (q : QD) (l : List El) : Bool := decide (F13 d m l) && f23 d m q && decide (ckQ d m q = 0)
theorem f23_cnt {d m : List ByteArray} {q : QD} (h : f23 d m q = true) : q.wh.cnt ≤ 1000000 ∧ q.bl.length ≤ 1000 := by
  unfold f23 at h
  simp only [Bool.and_eq_true, decide_eq_true_eq] at h
  obtain ⟨⟨⟨⟨⟨⟨⟨_, _⟩, h3⟩, _⟩, _⟩, h6⟩, _⟩, _⟩ := h
  have := FT.cnt_prt q.wh 300 h6
  have := h3.1
  omega
theorem fits25_c (dv mv v : Value) (d m : List ByteArray) (q : QD) (l : List El) (w : World) (h : ScIs w dv mv d m) (hq : q.Ok w) (hl : RecS elC 4 w v l) (hes : ∀ e ∈ l, EIs w e ∧ StZ e.d) : FnC Try.prog 21 #[scV dv mv, .agg (qdC q).toArray, v] w fun r w' => r = .bool (f25 d m q l) ∧ Later w w' := by
  have esc : scV dv mv = .agg #[dv, mv] := rfl
  rw [esc]
  obtain ⟨lo, lc, rfl, gl1, gl2⟩ := hl.slice
  refine enter21 _ _ _ ?_
  unfold B21
  have eca : (Value.agg (qdC q).toArray).cells = (qdC q).toArray := rfl
  have ecb : (Value.agg #[dv, mv]).cells = #[dv, mv] := rfl
  obtain ⟨l1, s1, F1⟩ := box2 w dv mv 24
  have B2 := Blk.new (w.alloc (.cells #[dv, mv] 24)) (qdC q).toArray 42
  have l2 := later_alloc (w.alloc (.cells #[dv, mv] 24)) (.cells (qdC q).toArray 42)
  rw [s1] at B2
  repeat' (first | (simp (disch := omega) only [push_cast, ↓reduceIte, zA, zG, zB, zH, zI, zC, zJ, zK, zL, zD, zE, zF, zM, zN, zO, zP, zQ, reduceCtorEq, eca, ecb, s1]) | refine iX ?_ ?_ <;> intro _ | refine And.intro (by omega) ?_ | fail)
  have l01 := l1.trans l2
  have FS : ∀ w', Later ((w.alloc (.cells #[dv, mv] 24)).alloc (.cells (qdC q).toArray 42)) w' → cellsAt w' ⟨w.heap.size, 0, none⟩ 2 = some [dv, mv] := fun w' hl => (F1 w' (l2.trans hl)).2.2
  clear F1 l1 l2 s1
  generalize (w.alloc (.cells #[dv, mv] 24)).alloc (.cells (qdC q).toArray 42) = w1 at *
  generalize hkq : w.heap.size = kf at *
  have FQ := fun w' (hl : Later w1 w') => Blk.cellsAt (l := qdC q) (qdLater B2 hl)
  have FQ : ∀ w', Later w1 w' → cellsAt w' ⟨kf + 1, 0, none⟩ 12 = some (qdC q) := FQ
  have fs1 := FS w1 (Later.refl _)
  repeat' (first | (simp (disch := omega) only [push_cast, ↓reduceIte, zA, zG, zB, zH, zI, zC, zJ, zK, zL, zD, zE, zF, zM, zN, zO, zP, zQ, reduceCtorEq, fs1]) | refine iX ?_ ?_ <;> intro _ | refine And.intro (by omega) ?_ | refine dq ?_)
  refine (fits13_c dv mv _ d m l w1 (h.later l01) (hl.later l01) (fun e he => ⟨(hes e he).1.later l01, (hes e he).2⟩)).mono ?_
  rintro _ w2 ⟨rfl, l2⟩
  have fs2 := FS w2 l2
  have fq2 := FQ w2 l2
  repeat' (first | (simp (disch := omega) only [push_cast, ↓reduceIte, zA, zG, zB, zH, zI, zC, zJ, zK, zL, zD, zE, zF, zM, zN, zO, zP, zQ, reduceCtorEq, fs2, fq2]) | refine iX ?_ ?_ <;> intro _ | refine And.intro (by omega) ?_ | refine dq ?_)
  refine (fits23_c dv mv d m q w2 (h.later (l01.trans l2)) (hq.later (l01.trans l2))).mono ?_
  rintro _ w3 ⟨rfl, l3⟩
  have l13 := l2.trans l3
  have l03 := l01.trans l13
  unfold f25
  cases h13 : decide (F13 d m l) with
  | false =>
    repeat' (first | (simp (disch := omega) only [push_cast, ↓reduceIte, zA, zG, zB, zH, zI, zC, zJ, zK, zL, zD, zE, zF, zM, zN, zO, zP, zQ, reduceCtorEq]) | refine iX ?_ ?_ <;> intro _ | refine And.intro (by omega) ?_ | refine dq ?_)
    first | exact ⟨(by simp), l03⟩ | exact l03
  | true =>
  cases h23 : f23 d m q with
  | false =>
    repeat' (first | (simp (disch := omega) only [push_cast, ↓reduceIte, zA, zG, zB, zH, zI, zC, zJ, zK, zL, zD, zE, zF, zM, zN, zO, zP, zQ, reduceCtorEq]) | refine iX ?_ ?_ <;> intro _ | refine And.intro (by omega) ?_ | refine dq ?_)
    first | exact ⟨(by simp), l03⟩ | exact l03
  | true =>
  obtain ⟨k1, k2⟩ := f23_cnt h23
  have fs3 := FS w3 l13
  have fq3 := FQ w3 l13
  repeat' (first | (simp (disch := omega) only [push_cast, ↓reduceIte, zA, zG, zB, zH, zI, zC, zJ, zK, zL, zD, zE, zF, zM, zN, zO, zP, zQ, reduceCtorEq, fs3, fq3]) | refine iX ?_ ?_ <;> intro _ | refine And.intro (by omega) ?_ | refine dq ?_)
  refine (check_c dv mv d m q w3 (h.later l03) (hq.later l03) k1 k2).mono ?_
  rintro _ w4 ⟨rfl, l4⟩
  repeat' (first | (simp (disch := omega) only [push_cast, ↓reduceIte, zA, zG, zB, zH, zI, zC, zJ, zK, zL, zD, zE, zF, zM, zN, zO, zP, zQ, reduceCtorEq]) | refine iX ?_ ?_ <;> intro _ | refine And.intro (by omega) ?_ | refine dq ?_)
  first | exact ⟨(by simp), (l03.trans l4)⟩ | exact (l03.trans l4)
theorem ty_of {d m : List ByteArray} {q : QD} (h : ckQ d m q = 0) : TyQ d m q ∧ (q.wh.op = 0 ∧ q.wh.kids.length = 0 ∨ q.wh.form 30 = true) ∧ 0 ≤ q.ev := by
  have hsh : shOk q = true := by
    cases h1 : shOk q with
    | true => rfl
    | false => unfold ckQ at h; rw [h1, if_pos rfl] at h; cases h
  have hns : nsOk d m q = true := by
    cases h1 : nsOk d m q with
    | true => rfl
    | false => unfold ckQ at h; rw [hsh, h1, if_neg (by simp), if_pos rfl] at h; cases h
  have htp : tpOk q = true := by
    cases h1 : tpOk q with
    | true => rfl
    | false => unfold ckQ at h; rw [hsh, hns, h1, if_neg (by simp), if_neg (by simp), if_pos rfl] at h; cases h
  unfold shOk szOk whOk at hsh
  unfold nsOk at hns
  unfold tpOk at htp
  simp only [Bool.and_eq_true, decide_eq_true_eq, List.all_eq_true] at hsh hns htp
  obtain ⟨⟨⟨⟨⟨⟨s1, s2⟩, s3⟩, s4⟩, s5⟩, s6⟩, s7⟩ := hsh
  obtain ⟨⟨n1, n2⟩, n3⟩ := hns
  obtain ⟨⟨⟨_, _⟩, t3⟩, t4⟩ := htp
  have tm : ∀ t : TD, tmOk t = true → mtOk m t = true → TmOk m t := fun t h1 h2 => by
    unfold tmOk at h1
    unfold mtOk at h2
    simp only [Bool.and_eq_true, decide_eq_true_eq, Bool.or_eq_true] at h1 h2
    refine ⟨h1.1.1, h1.1.2, fun h0 => ?_⟩
    rcases h2 with h2 | h2
    · exact absurd h2 h0
    · exact inL_iff.1 h2
  obtain ⟨u1, u2, u3, u4, u5, u6, u7⟩ := t4
  refine ⟨⟨fun n hn => inL_iff.1 (n1 n (List.mem_append_left _ hn)), s3, fun t ht => tm t (s5 t ht) (n2 t ht), s2, fun h hh => tm h.t ?_ (n3 h hh), by omega, u6⟩, ?_, ?_⟩
  · have := s6 h hh
    unfold hvOk at this
    simp only [Bool.and_eq_true] at this
    exact this.1.1.1.1
  · split at s7
    · rename_i h0
      simp only [Bool.and_eq_true, decide_eq_true_eq] at s7
      exact .inl ⟨h0, s7.1.1⟩
    · exact .inr s7
  · unfold evOk grOk at t3
    simp only [Bool.or_eq_true, Bool.and_eq_true, decide_eq_true_eq] at t3
    omega
theorem cr_of {d m : List ByteArray} {l : List El} (h : F13 d m l) : ∀ e ∈ l, Cr d.length m.length e := fun e he => by
  obtain ⟨h1, h2, h3, h4, h5⟩ := h
  obtain ⟨r1, r2, _, r4, r5, r6, r7, r8⟩ := h5 e he
  exact ⟨⟨r7, r8, r4, r1, r2, by have := h4.2.2.2.1; omega, by have := h4.2.2.2.2; omega⟩, r5, r6⟩
end Go.Proofs.Ytnofalhkapmcnaa
end
section
namespace Go.Proofs.Ytnofalhkapmcnaa
open Go.Vc Go.RowKit Go.ChangeShapes Go.Key
set_option maxRecDepth 100000
section
variable {H : Type} {enc : TypeId × Value → H} {w : World} {sp : Nat → Bool} {hd : Bool} {M : Nat}
theorem z_agg3 : OZ M enc Try.prog w sp hd 111 (fun cs => ∃ a : Ag, cs = agC a ∧ True) :=
  (oz_struct (S := 3) Try.underlying111 (by kernel_rfl)).mono fun cs ⟨hl, hf⟩ => by
    match cs, hl with
    | [c0, c1, c2], _ =>
      obtain ⟨a, ha, _⟩ := hf 0 _ 1 _ rfl (by kernel_rfl) (fun _ => z_int)
      obtain ⟨b, hb, _⟩ := hf 1 _ 1 _ rfl (by kernel_rfl) (fun _ => z_int)
      obtain ⟨c, hc, _⟩ := hf 2 _ 1 _ rfl (by kernel_rfl) (fun _ => z_int)
      obtain rfl : c0 = _ := (List.cons.inj ha).1
      obtain rfl : c1 = _ := (List.cons.inj hb).1
      obtain rfl : c2 = _ := (List.cons.inj hc).1
      exact ⟨(a, b, c), rfl, trivial⟩
def RowQ (w : World) (e : El) : Prop := EIs w e ∧ StZ e.d
theorem z_row : OZ M enc Try.prog w sp hd 72 (fun cs => ∃ e : El, cs = elC e ∧ RowQ w e) :=
  (oz_struct (S := 4) Try.underlying72 (by kernel_rfl)).mono fun cs ⟨hl, hf⟩ => by
    match cs, hl with
    | [c0, c1, c2, c3], _ =>
      obtain ⟨t, ht, _⟩ := hf 0 _ 1 _ rfl (by kernel_rfl) (fun _ => z_int)
      obtain ⟨dv, d, hd, sd, zd⟩ := hf 1 _ 1 _ rfl (by kernel_rfl) (fun _ => z_strs)
      obtain ⟨n, hn, _⟩ := hf 2 _ 1 _ rfl (by kernel_rfl) (fun _ => z_int)
      obtain ⟨av, a, ha, sa, _, _⟩ := hf 3 _ 1 _ rfl (by kernel_rfl) (fun _ => oz_slice (en := agC) (Q := fun _ => True) (s := 3) Try.underlying70 (by kernel_rfl) z_agg3)
      obtain rfl : c0 = _ := (List.cons.inj ht).1
      obtain rfl : c1 = _ := (List.cons.inj hd).1
      obtain rfl : c2 = _ := (List.cons.inj hn).1
      obtain rfl : c3 = _ := (List.cons.inj ha).1
      exact ⟨⟨t, d, n, a, c1, c3⟩, rfl, ⟨sd, sa⟩, fun s hs => Nat.le_trans (zd s hs) (by unfold Bz; omega)⟩
theorem z_rows : OZ M enc Try.prog w sp hd 65 (fun cs => ∃ (v : Value) (l : List El), cs = [v] ∧ RecS elC 4 w v l ∧ ∀ e ∈ l, RowQ w e) :=
  (oz_slice (en := elC) (Q := RowQ w) (s := 4) Try.underlying65 (by kernel_rfl) z_row).mono fun cs ⟨v, l, h1, h2, h3, _⟩ => ⟨v, l, h1, h2, h3⟩
theorem z_asked : OZ M enc Try.prog w sp hd 67 (fun cs => ∃ (q : QD) (v : Value) (l : List El), cs = qdC q ++ [v] ∧ q.Ok w ∧ RecS elC 4 w v l ∧ ∀ e ∈ l, RowQ w e) :=
  (oz_struct (S := 13) Try.underlying67 (by kernel_rfl)).mono fun cs ⟨hl, hf⟩ => by
    obtain ⟨q, h0, w0⟩ := hf 0 _ 12 _ rfl (by kernel_rfl) (fun _ => z_query)
    obtain ⟨v, l, h1, w1, v1⟩ := hf 1 _ 1 _ rfl (by kernel_rfl) (fun _ => z_rows)
    have h0 : cs.take 12 = qdC q := by simpa using h0
    have h1 : (cs.drop 12).take 1 = [v] := h1
    have h2 : cs.drop 12 = [v] := by rw [← h1, List.take_of_length_le (by rw [List.length_drop, hl]; omega)]
    exact ⟨q, v, l, by rw [← h0, ← h2, List.take_append_drop], w0, w1, v1⟩
end
end Go.Proofs.Ytnofalhkapmcnaa
end
section
namespace Go.Proofs.Ytnofalhkapmcnaa
open Go.Vc
set_option maxRecDepth 100000
variable (Q : Post) (ds : List Deferred) (σ : Env) (w : World)
/-! 7 columbary/columbarylaw25.GroupParts (params #[24, 67, 3], results #[(.tmp 6)], 119 slots) -/
def W7_0 : List Nat := [8, 9, 10, 28, 29, 30, 31, 32, 33, 34, 35, 36, 37, 38, 39, 40, 41, 42, 43, 44, 45, 46, 47, 48, 49, 50, 51, 52, 53, 54, 55, 56, 57]
@[push_cast] theorem W7_0_def : W7_0 = [8, 9, 10, 28, 29, 30, 31, 32, 33, 34, 35, 36, 37, 38, 39, 40, 41, 42, 43, 44, 45, 46, 47, 48, 49, 50, 51, 52, 53, 54, 55, 56, 57] := mk_eq rfl
def r7_0 : List VOp :=
  [⟨some 3, .box 24 (.tmp 0), 0, none⟩,
   ⟨some 4, .box 67 (.tmp 1), 0, none⟩,
   ⟨some 6, .assign (.const (.bool false)), 4, none⟩]
def r7_1 : List VOp :=
  [lda 19 24 3,
   fad 20 67 4 0,
   lda 21 42 20,
   fad 22 67 4 1,
   lda 23 65 22,
   ⟨some 24, .call ⟨.value (.func 21), #[.tmp 19, .tmp 21, .tmp 23], #[24, 42, 65]⟩, 4, none⟩,
   asg 7 24 4]
def r7_2 : List VOp :=
  [mv 25 7 4,
   ⟨some 26, .unOp .not 4 (.tmp 25), 4, none⟩]
def r7_3 : List VOp :=
  [⟨some 27, .call ⟨.value (.func 22), #[], #[]⟩, 4, none⟩,
   asg 6 27 4]
def r7_4 : List VOp :=
  [⟨some 8, .assign (.const (.slice none 0 0)), 65, none⟩,
   ⟨some 9, .assign (.const (.slice none 0 0)), 65, none⟩]
def r7_5 : List VOp :=
  [⟨some 10, .assign (.const (.int .i64 0)), 3, none⟩]
def r7_6 : List VOp :=
  [mv 28 10 3,
   fad 29 67 4 1,
   lda 30 65 29,
   ⟨some 31, .call ⟨.builtin .len, #[.tmp 30], #[65]⟩, 3, none⟩,
   ⟨some 32, .binOp .lss 3 (.tmp 28) (.tmp 31) 3, 4, none⟩]
def r7_8 : List VOp :=
  [mv 35 2 3,
   mv 36 10 3,
   ⟨some 37, .binOp .rem 3 (.tmp 36) (.const (.int .i64 32)) 3, 3, none⟩,
   ⟨some 38, .convert 3 69 (.tmp 37), 69, none⟩,
   ⟨some 39, .binOp .shr 3 (.tmp 35) (.tmp 38) 69, 3, none⟩,
   ⟨some 40, .binOp .and 3 (.tmp 39) (.const (.int .i64 1)) 3, 3, none⟩,
   ⟨some 41, .binOp .eql 3 (.tmp 40) (.const (.int .i64 1)) 3, 4, none⟩]
def r7_9 : List VOp :=
  [mv 42 8 65,
   fad 43 67 4 1,
   lda 44 65 43,
   mv 45 10 3,
   iad 46 65 44 45,
   lda 47 72 46,
   ⟨some 48, .buildSlice 65 1 #[(0, (.tmp 47))], 65, none⟩,
   ⟨some 49, .call ⟨.builtin .append, #[.tmp 42, .tmp 48], #[65, 65]⟩, 65, none⟩,
   asg 8 49 65]
def r7_10 : List VOp :=
  [mv 50 9 65,
   fad 51 67 4 1,
   lda 52 65 51,
   mv 53 10 3,
   iad 54 65 52 53,
   lda 55 72 54,
   ⟨some 56, .buildSlice 65 1 #[(0, (.tmp 55))], 65, none⟩,
   ⟨some 57, .call ⟨.builtin .append, #[.tmp 50, .tmp 56], #[65, 65]⟩, 65, none⟩,
   asg 9 57 65]
def r7_7 : List VOp :=
  [mv 33 10 3,
   ⟨some 34, .binOp .add 3 (.tmp 33) (.const (.int .i64 1)) 3, 3, none⟩,
   asg 10 34 3]
def r7_11 : List VOp :=
  [lda 59 24 3,
   fad 60 67 4 0,
   lda 61 42 60,
   fad 62 67 4 1,
   lda 63 65 62,
   ⟨some 64, .call ⟨.value (.func 23), #[.tmp 59, .tmp 61, .tmp 63], #[24, 42, 65]⟩, 74, none⟩,
   mv 58 64 74,
   ext 65 58 0 73,
   ext 66 58 1 53,
   asg 11 65 73,
   asg 12 66 53]
def r7_12 : List VOp :=
  [lda 68 24 3,
   fad 69 67 4 0,
   lda 70 42 69,
   mv 71 8 65,
   ⟨some 72, .call ⟨.value (.func 24), #[.tmp 68, .tmp 70, .tmp 71], #[24, 42, 65]⟩, 76, none⟩,
   mv 67 72 76,
   ext 73 67 0 65,
   ext 74 67 1 53,
   asg 13 73 65,
   asg 14 74 53]
def r7_13 : List VOp :=
  [lda 76 24 3,
   fad 77 67 4 0,
   lda 78 42 77,
   mv 79 9 65,
   ⟨some 80, .call ⟨.value (.func 24), #[.tmp 76, .tmp 78, .tmp 79], #[24, 42, 65]⟩, 76, none⟩,
   mv 75 80 76,
   ext 81 75 0 65,
   ext 82 75 1 53,
   asg 15 81 65,
   asg 16 82 53]
def r7_14 : List VOp :=
  [mv 83 12 53,
   ⟨some 84, .binOp .neq 53 (.tmp 83) (.const (.int .i64 0)) 53, 4, none⟩,
   mv 85 84 4,
   ⟨some 86, .move (.tmp 14), 53, some (85, false)⟩,
   ⟨some 87, .binOp .neq 53 (.tmp 86) (.const (.int .i64 0)) 53, 4, some (85, false)⟩,
   ⟨some 88, .pick (.tmp 85) (.const (.bool true)) (.tmp 87), 4, none⟩,
   mv 89 88 4,
   ⟨some 90, .move (.tmp 16), 53, some (89, false)⟩,
   ⟨some 91, .binOp .neq 53 (.tmp 90) (.const (.int .i64 0)) 53, 4, some (89, false)⟩,
   ⟨some 92, .pick (.tmp 89) (.const (.bool true)) (.tmp 91), 4, none⟩]
def r7_15 : List VOp :=
  [⟨some 93, .call ⟨.value (.func 22), #[], #[]⟩, 4, none⟩,
   asg 6 93 4]
def r7_16 : List VOp :=
  [mv 94 13 65,
   mv 95 15 65,
   ⟨some 96, .call ⟨.builtin .append, #[.tmp 94, .tmp 95], #[65, 65]⟩, 65, none⟩,
   asg 13 96 65]
def r7_17 : List VOp :=
  [lda 98 24 3,
   fad 99 67 4 0,
   lda 100 42 99,
   mv 101 13 65,
   ⟨some 102, .call ⟨.value (.func 25), #[.tmp 98, .tmp 100, .tmp 101], #[24, 42, 65]⟩, 74, none⟩,
   mv 97 102 74,
   ext 103 97 0 73,
   ext 104 97 1 53,
   asg 17 103 73,
   asg 18 104 53]
def r7_18 : List VOp :=
  [⟨some 105, .call ⟨.value (.func 22), #[], #[]⟩, 4, none⟩,
   mv 106 105 4,
   ⟨some 107, .move (.tmp 18), 53, some (106, true)⟩,
   ⟨some 108, .binOp .eql 53 (.tmp 107) (.const (.int .i64 121)) 53, 4, some (106, true)⟩,
   ⟨some 109, .move (.tmp 108), 4, some (106, true)⟩,
   ⟨some 110, .move (.tmp 18), 53, some (109, false)⟩,
   ⟨some 111, .binOp .eql 53 (.tmp 110) (.const (.int .i64 0)) 53, 4, some (109, false)⟩,
   ⟨some 112, .move (.tmp 111), 4, some (109, false)⟩,
   ⟨some 113, .move (.tmp 11), 73, some (112, true)⟩,
   ⟨some 114, .move (.tmp 17), 73, some (112, true)⟩,
   ⟨some 115, .call ⟨.value (.func 26), #[.tmp 113, .tmp 114], #[73, 73]⟩, 4, some (112, true)⟩,
   ⟨some 116, .pick (.tmp 112) (.tmp 115) (.const (.bool false)), 4, some (109, false)⟩,
   ⟨some 117, .pick (.tmp 109) (.const (.bool true)) (.tmp 116), 4, some (106, true)⟩,
   ⟨some 118, .pick (.tmp 106) (.tmp 117) (.const (.bool false)), 4, none⟩,
   asg 6 118 4]
def B7 : VC :=
  (.seq (.region r7_0) (.seq (.region r7_1) (.seq (.seq (.region r7_2) (.cond (.tmp 26) (.seq (.region r7_3) .ret) .skip)) (.seq (.region r7_4) (.seq (.seq (.region r7_5) (.block 0 (.loop (.seq (.seq (.region r7_6) (.cond (.tmp 32) .skip (.exit 0))) (.seq (.block 1 (.seq (.region r7_8) (.cond (.tmp 41) (.region r7_9) (.region r7_10)))) (.region r7_7)))))) (.seq (.region r7_11) (.seq (.region r7_12) (.seq (.region r7_13) (.seq (.seq (.region r7_14) (.cond (.tmp 92) (.seq (.region r7_15) .ret) .skip)) (.seq (.region r7_16) (.seq (.region r7_17) (.seq (.region r7_18) .ret))))))))))))
theorem code7 : ∃ c, Try.f7.body = some c ∧ abs Try.f7.ntmps c = B7 := ⟨_, rfl, by kernel_rfl⟩
theorem hb7 : HasBody Try.prog 7 := hasBody_of Try.func7 (by kernel_rfl)
theorem enter7 (x0 x1 x2 : Value) : Ent 7 B7 #[(.tmp 6)] [x0, x1, x2] := ent code7 hb7 Try.func7 rfl rfl
@[push_cast] def vr7_0 := vR r7_0.eq_1
@[push_cast] def vr7_1 := vR r7_1.eq_1
@[push_cast] def vr7_2 := vR r7_2.eq_1
@[push_cast] def vr7_3 := vR r7_3.eq_1
@[push_cast] def vr7_4 := vR r7_4.eq_1
@[push_cast] def vr7_5 := vR r7_5.eq_1
@[push_cast] def vr7_6 := vR r7_6.eq_1
@[push_cast] def vr7_8 := vR r7_8.eq_1
@[push_cast] def vr7_9 := vR r7_9.eq_1
@[push_cast] def vr7_10 := vR r7_10.eq_1
@[push_cast] def vr7_7 := vR r7_7.eq_1
@[push_cast] def vr7_11 := vR r7_11.eq_1
@[push_cast] def vr7_12 := vR r7_12.eq_1
@[push_cast] def vr7_13 := vR r7_13.eq_1
@[push_cast] def vr7_14 := vR r7_14.eq_1
@[push_cast] def vr7_15 := vR r7_15.eq_1
@[push_cast] def vr7_16 := vR r7_16.eq_1
@[push_cast] def vr7_17 := vR r7_17.eq_1
@[push_cast] def vr7_18 := vR r7_18.eq_1
@[push_cast] theorem bsl65_1_CodesGL {K : Value → World → Prop} {w : World} (x00 x01 x02 x03 : Value) : vBuildSlice Try.prog 65 1 #[(0, (.agg #[x00, x01, x02, x03]))] K w = K (.slice (some ⟨w.heap.size, 0, none⟩) 1 1) (w.alloc (.cells #[x00, x01, x02, x03] 72)) :=
  vBuildSlice_ok Try.underlying65 ti72 (by kernel_rfl) (by decide)
end Go.Proofs.Ytnofalhkapmcnaa
end
section
namespace Go.Proofs.Ytnofalhkapmcnaa
open Go.Vc Go.Key
theorem ScIs.of_ok {w : World} {dv mv : Value} {d m : List ByteArray} (h : StS w dv d ∧ (∀ s ∈ d, s.size ≤ Bz) ∧ StS w mv m ∧ ∀ s ∈ m, s.size ≤ Bz) : ScIs w dv mv d m :=
  ⟨h.1, h.2.2.1, fun s hs => Nat.le_trans (h.2.1 s hs) (by unfold Bz; omega), fun s hs => Nat.le_trans (h.2.2.2 s hs) (by unfold Bz; omega)⟩
end Go.Proofs.Ytnofalhkapmcnaa
end
