/- What a query tells of rows: the program's Run; lists of groups held against one another. -/
import Derived.Test.YtnofalhkapmcnaaGreatPartK
set_option linter.all false
section
set_option linter.unusedSimpArgs false
namespace Go.Fold
open Go.Key Go.Stab Go.Proofs.YtnofalhkapmcnaaGreat
theorem F.idem {l out : List R} (h : F l out) : F out out := by
  refine ⟨h.srt, fun x hx => hx, fun x hx => ?_⟩
  by_cases hl : l.filter (eqv rlt x) = []
  · exact absurd (h.nil x hl) hx
  · obtain ⟨z, _, hz⟩ := h.one x hl
    exact ⟨z, by rw [hz]; rfl, hz⟩
theorem F.two {l out out' : List R} (h : F l out) (h' : F out out') : out' = out :=
  Option.some.inj (Res.one (l := out) (l' := out) (o := some out) (o' := some out') (Stb.refl _) h.idem h')
end Go.Fold
namespace Go.Proofs.YtnofalhkapmcnaaGreat
open Go.Vc Go.Key Go.Cub Go.Fold Go.Stab
set_option maxRecDepth 100000
theorem FinR.of_fold {m : List ByteArray} {q : QD} {w : World} {v : Value} {e : Int} {l rows : List R} (hF : F l rows) (h : FinR m q w v e rows) : FinR m q w v e l := by
  rcases h with ⟨_, _, hb⟩ | ⟨h1, gs, h2, h3, rows', h4, h5⟩
  · exact absurd hb hF.idem.ok
  · rw [hF.two h4] at h5
    exact .inr ⟨h1, gs, h2, h3, rows, hF, h5⟩
set_option maxHeartbeats 1000000 in
theorem grun_c (dv mv v : Value) (d m : List ByteArray) (q : QD) (l : List El) (w : World) (h : ScIs w dv mv d m) (hq : q.Ok w) (hT : TyQ d m q) (hl : RecS elC 4 w v l) (hes : ∀ e ∈ l, EIs w e ∧ Cr d.length m.length e) (h63 : l.length ≤ 100000) :
    FnC Tryz.prog 7 #[scV dv mv, .agg (qdC q).toArray, v] w fun r w' => ∃ vv e, r = .tuple #[vv, .int .i64 e] ∧ FinR m q w' vv e (grpL d q (l.map El.abs)) ∧ Later w w' := by
  have esc : scV dv mv = .agg #[dv, mv] := rfl
  rw [esc]
  obtain ⟨lo, lc, rfl, gl1, gl2⟩ := hl.slice
  refine enter7 _ _ _ ?_
  unfold B7
  have eca : (Value.agg (qdC q).toArray).cells = (qdC q).toArray := rfl
  have ecb : (Value.agg #[dv, mv]).cells = #[dv, mv] := rfl
  obtain ⟨l1, s1, F1⟩ := box2 w dv mv 24
  have B2 := Blk.new (w.alloc (.cells #[dv, mv] 24)) (qdC q).toArray 32
  have l2 := later_alloc (w.alloc (.cells #[dv, mv] 24)) (.cells (qdC q).toArray 32)
  rw [s1] at B2
  repeat' (first | (simp (disch := omega) only [push_cast, seval, eca, ecb, s1]) | refine iX ?_ ?_ <;> intros | refine aI (by omega) ?_ | fail)
  have l01 := l1.trans l2
  have FS : ∀ w', Later ((w.alloc (.cells #[dv, mv] 24)).alloc (.cells (qdC q).toArray 32)) w' → cellsAt w' ⟨w.heap.size, 0, none⟩ 2 = some [dv, mv] := fun w' hl => (F1 w' (l2.trans hl)).2.2
  clear F1 l1 l2 s1
  generalize (w.alloc (.cells #[dv, mv] 24)).alloc (.cells (qdC q).toArray 32) = w1 at *
  generalize hkq : w.heap.size = kf at *
  have QB := fun w' (hl : Later w1 w') => qdLater B2 hl
  have fq : cellsAt w1 ⟨kf + 1, 0, none⟩ 12 = some (qdC q) := Blk.cellsAt (l := qdC q) B2
  have fs := FS w1 (Later.refl _)
  repeat' (first | (simp (disch := omega) only [push_cast, seval, fq, fs]) | refine iX ?_ ?_ <;> intros | refine aI (by omega) ?_ | refine dq ?_)
  refine (gfold_c m.length dv mv _ d m q l w1 (h.later l01) (hq.later l01) (hl.later l01) (fun e he => ⟨(hes e he).1.later l01, (hes e he).2⟩) hT.bl (by have := hT.bln; omega) h63).mono ?_
  rintro _ w2 ⟨vv, er, rfl, hf, l2⟩
  have l02 := l01.trans l2
  rcases hf with ⟨rfl, rfl, hbad⟩ | ⟨rfl, es, ho, hF, hZ⟩
  · repeat' (first | (simp (disch := omega) only [push_cast, seval]) | refine iX ?_ ?_ <;> intros | refine aI (by omega) ?_ | refine dq ?_)
    exact ⟨_, _, rfl, .inl ⟨rfl, rfl, hbad⟩, l02⟩
  have hesl : es.length ≤ 100000 := by
    have h1 := hF.len
    have h2 := grpL_len d q (l.map El.abs)
    rw [List.length_map] at h1 h2
    omega
  obtain ⟨eo, ec, rfl, ge1, ge2⟩ := RecS.slice (OwnR.s ho)
  have fq2 : cellsAt w2 ⟨kf + 1, 0, none⟩ 12 = some (qdC q) := Blk.cellsAt (l := qdC q) (QB w2 l2)
  have fs2 := FS w2 l2
  repeat' (first | (simp (disch := omega) only [push_cast, seval, fq2, fs2]) | refine iX ?_ ?_ <;> intros | refine aI (by omega) ?_ | refine dq ?_)
  refine (gfinish_c q.bl.length dv mv _ d m q es w2 (h.later l02) (hq.later l02) hT (OwnR.s ho) (fun e he => ⟨(hZ e he).1.is, (hZ e he).2⟩) hesl).mono ?_
  rintro _ w3 ⟨vv, er, rfl, hf, l3⟩
  repeat' (first | (simp (disch := omega) only [push_cast, seval]) | refine iX ?_ ?_ <;> intros | refine aI (by omega) ?_ | refine dq ?_)
  exact ⟨_, _, rfl, hf.of_fold hF, l02.trans l3⟩
theorem gabs_iff (x y : Gx) : (x.d = y.d ∧ x.k = y.k ∧ x.t = y.t) ↔ x.abs = y.abs := by
  unfold Gx.abs
  simp only [Prod.mk.injEq]
  constructor
  · rintro ⟨h1, h2, h3⟩; exact ⟨h3, h1, h2⟩
  · rintro ⟨h1, h2, h3⟩; exact ⟨h2, h3, h1⟩
set_option maxHeartbeats 1000000 in
theorem gsame_c (u v : Value) (a b : List Gx) (w : World) (hu : RecS gxC 3 w u a) (hv : RecS gxC 3 w v b) (ha : ∀ e ∈ a, GxIs w e) (hb : ∀ e ∈ b, GxIs w e) : FnC Tryz.prog 11 #[u, v] w fun r w' => (∃ t, r = .bool t ∧ (t = true ↔ a.map Gx.abs = b.map Gx.abs)) ∧ Later w w' := by
  obtain ⟨oa, ca, rfl, g1, g2⟩ := hu.slice
  obtain ⟨ob, cb, rfl, k1, k2⟩ := hv.slice
  refine enter11 _ _ ?_
  unfold B11
  by_cases hlen : a.length = b.length
  · repeat' (first | (simp (disch := omega) only [push_cast, seval]) | refine iX ?_ ?_ <;> intros | refine aI (by omega) ?_ | refine dq ?_)
    refine vc_loop W11_0 (fun i : Nat => [(4, .bool false), (5, .int .i64 (i : Int))])
      (fun i w' => i ≤ a.length ∧ Later w w' ∧ (a.take i).map Gx.abs = (b.take i).map Gx.abs) (fun i => a.length - i) 0 (by decide) ?_ ?_ ?_
    · simp (disch := omega) only [push_cast, seval]
    · exact ⟨by omega, Later.refl _, by simp⟩
    rintro i uu w0 ⟨hi, hl, he⟩
    by_cases hia : i < a.length
    · have hib : i < b.length := by omega
      obtain ⟨aa, rfl, _⟩ := RecS.at gxC_len (hu.later hl) hia
      obtain ⟨bb, rfl, _⟩ := RecS.at gxC_len (hv.later hl) hib
      have x0 := RecS.cell gxC_len hu hia (j := 0) (x := .int .i64 (a[i]).t) rfl
      have x1 := RecS.cell gxC_len hu hia (j := 1) (x := (a[i]).dv) rfl
      have x2 := RecS.cell gxC_len hu hia (j := 2) (x := (a[i]).kv) rfl
      have y0 := RecS.cell gxC_len hv hib (j := 0) (x := .int .i64 (b[i]).t) rfl
      have y1 := RecS.cell gxC_len hv hib (j := 1) (x := (b[i]).dv) rfl
      have y2 := RecS.cell gxC_len hv hib (j := 2) (x := (b[i]).kv) rfl
      rw [addr_add_zero] at x0 y0
      have h1 := ha _ (List.getElem_mem hia)
      have h2 := hb _ (List.getElem_mem hib)
      have htk : (a.take (i + 1)).map Gx.abs = (a.take i).map Gx.abs ++ [(a[i]).abs] := by rw [take_snoc a i hia, List.map_append, List.map_singleton]
      have htk2 : (b.take (i + 1)).map Gx.abs = (b.take i).map Gx.abs ++ [(b[i]).abs] := by rw [take_snoc b i hib, List.map_append, List.map_singleton]
      have hne : (a[i]).abs ≠ (b[i]).abs → a.map Gx.abs ≠ b.map Gx.abs := fun hab e => by
        have := congrArg (fun l => l[i]?) e
        simp [hia, hib] at this
        exact hab this
      have hiff := gabs_iff a[i] b[i]
      generalize a[i] = x at *
      generalize b[i] = y at *
      have z1 := hl.cell x1
      have z2 := hl.cell y1
      repeat' (first | (simp (disch := omega) only [push_cast, seval, z1, z2]) | refine iX ?_ ?_ <;> intros | refine aI (by omega) ?_ | refine dq ?_)
      refine QFn.of hb18 (v := .bool (decide (x.d = y.d))) (fun w' hl' => texts_c _ _ x.d y.d w' (Sl.later h1.1 (hl.trans hl')) (Sl.later h2.1 (hl.trans hl'))) ?_
      repeat' (first | (simp (disch := omega) only [push_cast, seval]) | refine iX ?_ ?_ <;> intros | refine aI (by omega) ?_ | refine dq ?_)
      intro w1 hl1
      have z3 := (hl.trans hl1).cell x2
      have z4 := (hl.trans hl1).cell y2
      repeat' (first | (simp (disch := omega) only [push_cast, seval, z3, z4]) | refine iX ?_ ?_ <;> intros | refine aI (by omega) ?_ | refine dq ?_)
      refine QFn.of hb32 (v := .bool (decide (x.k = y.k))) (fun w' hl' => ints_c _ _ x.k y.k w' (Sl.later h1.2 ((hl.trans hl1).trans hl')) (Sl.later h2.2 ((hl.trans hl1).trans hl'))) ?_
      repeat' (first | (simp (disch := omega) only [push_cast, seval]) | refine iX ?_ ?_ <;> intros | refine aI (by omega) ?_ | refine dq ?_)
      intro w2 hl2
      have hl02 := (hl.trans hl1).trans hl2
      have z5 := hl02.cell x0
      have z6 := hl02.cell y0
      by_cases e1 : x.d = y.d
      · by_cases e2 : x.k = y.k
        · by_cases e3 : x.t = y.t
          · have hab := hiff.1 ⟨e1, e2, e3⟩
            have d3 : decide (x.t = y.t) = true := decide_eq_true e3
            rw [decide_eq_true e1, decide_eq_true e2]
            repeat' (first | (simp (disch := omega) only [push_cast, seval, z5, z6, d3, addr_add_zero]) | refine iX ?_ ?_ <;> intros | refine aI (by omega) ?_ | refine dq ?_)
            intro w3 hl3
            repeat' (first | (simp (disch := omega) only [push_cast, seval]) | refine iX ?_ ?_ <;> intros | refine aI (by omega) ?_ | refine dq ?_)
            refine ⟨rfl, i + 1, by simp (disch := omega) only [push_cast, seval], ⟨by omega, hl02.trans hl3, ?_⟩, by dsimp only; omega⟩
            rw [htk, htk2, he, hab]
          · have hn := hne fun h => e3 (hiff.2 h).2.2
            have d3 : decide (x.t = y.t) = false := decide_eq_false e3
            rw [decide_eq_true e1, decide_eq_true e2]
            repeat' (first | (simp (disch := omega) only [push_cast, seval, z5, z6, d3, addr_add_zero]) | refine iX ?_ ?_ <;> intros | refine aI (by omega) ?_ | refine dq ?_)
            intro w3 hl3
            repeat' (first | (simp (disch := omega) only [push_cast, seval]) | refine iX ?_ ?_ <;> intros | refine aI (by omega) ?_ | refine dq ?_)
            exact ⟨⟨false, rfl, by simp [hn]⟩, hl02.trans hl3⟩
        · have hn := hne fun h => e2 (hiff.2 h).2.1
          rw [decide_eq_true e1, decide_eq_false e2]
          repeat' (first | (simp (disch := omega) only [push_cast, seval]) | refine iX ?_ ?_ <;> intros | refine aI (by omega) ?_ | refine dq ?_)
          intro w3 hl3
          repeat' (first | (simp (disch := omega) only [push_cast, seval]) | refine iX ?_ ?_ <;> intros | refine aI (by omega) ?_ | refine dq ?_)
          exact ⟨⟨false, rfl, by simp [hn]⟩, hl02.trans hl3⟩
      · have hn := hne fun h => e1 (hiff.2 h).1
        rw [decide_eq_false e1]
        repeat' (first | (simp (disch := omega) only [push_cast, seval]) | refine iX ?_ ?_ <;> intros | refine aI (by omega) ?_ | refine dq ?_)
        intro w3 hl3
        repeat' (first | (simp (disch := omega) only [push_cast, seval]) | refine iX ?_ ?_ <;> intros | refine aI (by omega) ?_ | refine dq ?_)
        exact ⟨⟨false, rfl, by simp [hn]⟩, hl02.trans hl3⟩
    · have e : i = a.length := by omega
      subst e
      rw [List.take_length, hlen, List.take_length] at he
      repeat' (first | (simp (disch := omega) only [push_cast, seval]) | refine iX ?_ ?_ <;> intros | refine aI (by omega) ?_ | refine dq ?_)
      exact ⟨⟨true, rfl, by simp [he]⟩, hl⟩
  · have hne : a.map Gx.abs ≠ b.map Gx.abs := fun e => by
      have := congrArg List.length e
      simp at this
      exact hlen this
    repeat' (first | (simp (disch := omega) only [push_cast, seval]) | refine iX ?_ ?_ <;> intros | refine aI (by omega) ?_ | refine dq ?_)
    exact ⟨⟨false, rfl, by simp [hne]⟩, Later.refl _⟩
end Go.Proofs.YtnofalhkapmcnaaGreat
end
section
set_option linter.unusedSimpArgs false
namespace Go.Vc
theorem RecS.of_blk {α : Type} {enc : α → List Value} {k : Nat} (hk : ∀ x, (enc x).length = k) {w : World} {b : Nat} {e : TypeId} {l : List α} (h : Blk w b ((l.map enc).flatten).toArray e) (hl : l.length ≤ 1000000) : RecS enc k w (.slice (some ⟨b, 0, none⟩) l.length l.length) l := by
  refine SlN.mk (rec_flat hk l) (Nat.le_refl _) (by unfold maxLen; omega) (fun h => by cases h) (fun a ha i x hx => ?_)
  simp only [Option.some.injEq] at ha
  subst ha
  rw [addr_add_eq, Nat.zero_add, h.cell]
  simpa using hx
end Go.Vc
namespace Go.Proofs.YtnofalhkapmcnaaGreat
open Go.Vc Go.Key Go.Cub Go.Fold Go.Stab
set_option maxRecDepth 100000
def gA : ByteArray := ⟨#[97]⟩
def gM : ByteArray := ⟨#[109]⟩
def gX : ByteArray := ⟨#[120]⟩
def gY : ByteArray := ⟨#[121]⟩
def q25 (tv bv : Value) : QD := ⟨tv, [⟨0, ⟨#[]⟩⟩, ⟨3, gM⟩], 0, 20, 0, bv, [gA], .mk 0 ⟨#[]⟩ ⟨#[]⟩ (.slice none 0 0) [], .slice none 0 0, [], -2, 0⟩
def rows25 : List R := [(3, [gX], 2, [(5, 1, 4)]), (12, [gY], 1, [(9, 9, 9)]), (15, [gX], 1, [(1, 1, 1)])]
def gr25 : List R := [(0, [gX], 2, [(5, 1, 4)]), (0, [gY], 1, [(9, 9, 9)]), (0, [gX], 1, [(1, 1, 1)])]
theorem grp25 (tv bv : Value) : grpL [gA] (q25 tv bv) rows25 = gr25 := by kernel_rfl
def out25 : List R := [(0, [gX], 3, [(6, 1, 4)]), (0, [gY], 1, [(9, 9, 9)])]
theorem fold25 : F gr25 out25 := by
  have h1 : F [(0, [gX], 2, [(5, 1, 4)])] [(0, [gX], 2, [(5, 1, 4)])] := F.add (l := []) (A := []) (B := []) (r := (0, [gX], 2, [(5, 1, 4)])) F.start (by simp) (by simp)
  have h2 := F.add (l := [(0, [gX], 2, [(5, 1, 4)])]) (A := [(0, [gX], 2, [(5, 1, 4)])]) (B := []) (r := (0, [gY], 1, [(9, 9, 9)])) h1 (by intro b hb; rw [List.mem_singleton.1 hb]; decide +kernel) (by simp)
  exact (F.join (l := [(0, [gX], 2, [(5, 1, 4)]), (0, [gY], 1, [(9, 9, 9)])]) (A := []) (B := [(0, [gY], 1, [(9, 9, 9)])]) (b := (0, [gX], 2, [(5, 1, 4)])) (r := (0, [gX], 1, [(1, 1, 1)])) h2 ⟨rfl, rfl⟩).2 (0, [gX], 3, [(6, 1, 4)]) (by rfl)
def gs25 : List GR := [(0, [gX], [3, 4]), (0, [gY], [1, 9])]
theorem grs25 (tv bv : Value) : grsL [gM] (q25 tv bv) out25 = gs25 := by kernel_rfl
theorem fin25 {tv bv : Value} {gs : List GR} (h : FinL [gM] (q25 tv bv) gr25 gs) : gs = [(0, [gY], [1, 9]), (0, [gX], [3, 4])] := by
  obtain ⟨rows, h1, s, h2, h3, h4⟩ := h
  have hr : rows = out25 := Option.some.inj (Res.one (l := gr25) (l' := gr25) (o := some out25) (o' := some rows) (Stb.refl _) fold25 h1)
  rw [hr, grs25] at h3
  have h5 : gs = s := h4
  rw [h5]
  have hod : (q25 tv bv).od = -2 := rfl
  rw [hod] at h2 h3
  have h6 : Stb (rglt (-2)) gs25 ([(0, [gY], [1, 9])] ++ [(0, [gX], [3, 4])]) := Stb.swap (rglt_swo _) (u := [(0, [gX], [3, 4])]) (v := [(0, [gY], [1, 9])]) (by
    intro a ha b hb
    rw [List.mem_singleton.1 ha, List.mem_singleton.1 hb]
    decide +kernel)
  refine one_way (rglt_swo (-2)) (l := [(0, [gY], [1, 9]), (0, [gX], [3, 4])]) ?_ h2 fun x => ?_
  · unfold Srt
    refine List.Pairwise.cons (fun b hb => ?_) (List.Pairwise.cons (by simp) List.Pairwise.nil)
    rw [List.mem_singleton.1 hb]
    decide +kernel
  · rw [h3.2, ← h6.2]; rfl
theorem ty25 (tv bv : Value) : TyQ [gA] [gM] (q25 tv bv) := by
  refine ⟨fun n hn => hn, by show 1 ≤ 6; omega, fun t ht => ?_, by show 2 ≤ 8; omega, fun t ht => (by cases ht), by show (-2 : Int).natAbs ≤ 2; decide, by show (0 : Int) ≤ 0; omega⟩
  have ht : t ∈ [(⟨0, ⟨#[]⟩⟩ : TD), ⟨3, gM⟩] := ht
  simp only [List.mem_cons, List.not_mem_nil, or_false] at ht
  rcases ht with rfl | rfl
  · exact ⟨by decide, by decide, fun h => absurd rfl h⟩
  · exact ⟨by decide, by decide, fun _ => List.mem_singleton.2 rfl⟩
set_option maxHeartbeats 2000000 in
theorem alive25_c (w : World) : FnC Tryz.prog 6 #[] w fun v w' => v = .bool true ∧ Later w w' := by
  refine enter6 ?_
  unfold B6
  have ea : (⟨#[97]⟩ : ByteArray) = gA := rfl
  have em : (⟨#[109]⟩ : ByteArray) = gM := rfl
  have ex : (⟨#[120]⟩ : ByteArray) = gX := rfl
  have ey : (⟨#[121]⟩ : ByteArray) = gY := rfl
  repeat' (first | (simp (disch := omega) only [push_cast, seval, ea, em, ex, ey]) | refine iX ?_ ?_ <;> intros | refine aI (by omega) ?_ | refine dq ?_)
  refine vStore_new rfl rfl (by intro u hu; simp at hu; rcases hu with rfl | rfl <;> rfl) ?_
  have l1 := later_alloc w (.cells #[.string gA] 9)
  have B1 := Blk.new w #[.string gA] 9
  generalize w.alloc (.cells #[.string gA] 9) = w1 at *
  have l2 := later_alloc w1 (.cells #[.string gM] 9)
  have B2 := Blk.new w1 #[.string gM] 9
  generalize w1.alloc (.cells #[.string gM] 9) = w2 at *
  have l3 := later_alloc w2 (.cells #[.slice (some ⟨w.heap.size, 0, none⟩) 1 1, .slice (some ⟨w1.heap.size, 0, none⟩) 1 1] 24)
  have B3 := Blk.new w2 #[.slice (some ⟨w.heap.size, 0, none⟩) 1 1, .slice (some ⟨w1.heap.size, 0, none⟩) 1 1] 24
  generalize w2.alloc (.cells #[.slice (some ⟨w.heap.size, 0, none⟩) 1 1, .slice (some ⟨w1.heap.size, 0, none⟩) 1 1] 24) = w3 at *
  repeat' (first | (simp (disch := omega) only [push_cast, seval, ea, em, ex, ey]) | refine iX ?_ ?_ <;> intros | refine aI (by omega) ?_ | refine dq ?_)
  refine vStore_new rfl rfl (by intro u hu; simp at hu; rcases hu with rfl | rfl | rfl | rfl | rfl | rfl | rfl | rfl | rfl | rfl | rfl | rfl <;> rfl) ?_
  have l4 := later_alloc w3 (.cells #[.string gX] 9)
  have B4 := Blk.new w3 #[.string gX] 9
  generalize w3.alloc (.cells #[.string gX] 9) = w4 at *
  have l5 := later_alloc w4 (.cells #[.int .i64 5, .int .i64 1, .int .i64 4] 52)
  have B5 := Blk.new w4 #[.int .i64 5, .int .i64 1, .int .i64 4] 52
  generalize w4.alloc (.cells #[.int .i64 5, .int .i64 1, .int .i64 4] 52) = w5 at *
  have l6 := later_alloc w5 (.cells #[.string gY] 9)
  have B6 := Blk.new w5 #[.string gY] 9
  generalize w5.alloc (.cells #[.string gY] 9) = w6 at *
  have l7 := later_alloc w6 (.cells #[.int .i64 9, .int .i64 9, .int .i64 9] 52)
  have B7 := Blk.new w6 #[.int .i64 9, .int .i64 9, .int .i64 9] 52
  generalize w6.alloc (.cells #[.int .i64 9, .int .i64 9, .int .i64 9] 52) = w7 at *
  have l8 := later_alloc w7 (.cells #[.string gX] 9)
  have B8 := Blk.new w7 #[.string gX] 9
  generalize w7.alloc (.cells #[.string gX] 9) = w8 at *
  have l9 := later_alloc w8 (.cells #[.int .i64 1, .int .i64 1, .int .i64 1] 52)
  have B9 := Blk.new w8 #[.int .i64 1, .int .i64 1, .int .i64 1] 52
  generalize w8.alloc (.cells #[.int .i64 1, .int .i64 1, .int .i64 1] 52) = w9 at *
  have l10 := later_alloc w9 (.cells #[.int .i64 3, .slice (some ⟨w3.heap.size, 0, none⟩) 1 1, .int .i64 2, .slice (some ⟨w4.heap.size, 0, none⟩) 1 1, .int .i64 12, .slice (some ⟨w5.heap.size, 0, none⟩) 1 1, .int .i64 1, .slice (some ⟨w6.heap.size, 0, none⟩) 1 1, .int .i64 15, .slice (some ⟨w7.heap.size, 0, none⟩) 1 1, .int .i64 1, .slice (some ⟨w8.heap.size, 0, none⟩) 1 1] 55)
  have B10 := Blk.new w9 #[.int .i64 3, .slice (some ⟨w3.heap.size, 0, none⟩) 1 1, .int .i64 2, .slice (some ⟨w4.heap.size, 0, none⟩) 1 1, .int .i64 12, .slice (some ⟨w5.heap.size, 0, none⟩) 1 1, .int .i64 1, .slice (some ⟨w6.heap.size, 0, none⟩) 1 1, .int .i64 15, .slice (some ⟨w7.heap.size, 0, none⟩) 1 1, .int .i64 1, .slice (some ⟨w8.heap.size, 0, none⟩) 1 1] 55
  generalize w9.alloc (.cells #[.int .i64 3, .slice (some ⟨w3.heap.size, 0, none⟩) 1 1, .int .i64 2, .slice (some ⟨w4.heap.size, 0, none⟩) 1 1, .int .i64 12, .slice (some ⟨w5.heap.size, 0, none⟩) 1 1, .int .i64 1, .slice (some ⟨w6.heap.size, 0, none⟩) 1 1, .int .i64 15, .slice (some ⟨w7.heap.size, 0, none⟩) 1 1, .int .i64 1, .slice (some ⟨w8.heap.size, 0, none⟩) 1 1] 55) = w10 at *
  have l11 := later_alloc w10 (.cells #[.int .i64 0, .string ⟨#[]⟩, .int .i64 3, .string gM] 58)
  have B11 := Blk.new w10 #[.int .i64 0, .string ⟨#[]⟩, .int .i64 3, .string gM] 58
  generalize w10.alloc (.cells #[.int .i64 0, .string ⟨#[]⟩, .int .i64 3, .string gM] 58) = w11 at *
  have l12 := later_alloc w11 (.cells #[.string gA] 9)
  have B12 := Blk.new w11 #[.string gA] 9
  generalize w11.alloc (.cells #[.string gA] 9) = w12 at *
  obtain ⟨q, hq⟩ : ∃ q, q = q25 (.slice (some ⟨w10.heap.size, 0, none⟩) 2 2) (.slice (some ⟨w11.heap.size, 0, none⟩) 1 1) := ⟨_, rfl⟩
  have l13 := later_alloc w12 (.cells #[.slice (some ⟨w10.heap.size, 0, none⟩) 2 2, .int .i64 0, .int .i64 20, .int .i64 0, .slice (some ⟨w11.heap.size, 0, none⟩) 1 1, .int .i64 0, .string ⟨#[]⟩, .string ⟨#[]⟩, .slice none 0 0, .slice none 0 0, .int .i64 (-2), .int .i64 0] 32)
  have B13 := Blk.new w12 #[.slice (some ⟨w10.heap.size, 0, none⟩) 2 2, .int .i64 0, .int .i64 20, .int .i64 0, .slice (some ⟨w11.heap.size, 0, none⟩) 1 1, .int .i64 0, .string ⟨#[]⟩, .string ⟨#[]⟩, .slice none 0 0, .slice none 0 0, .int .i64 (-2), .int .i64 0] 32
  generalize w12.alloc (.cells #[.slice (some ⟨w10.heap.size, 0, none⟩) 2 2, .int .i64 0, .int .i64 20, .int .i64 0, .slice (some ⟨w11.heap.size, 0, none⟩) 1 1, .int .i64 0, .string ⟨#[]⟩, .string ⟨#[]⟩, .slice none 0 0, .slice none 0 0, .int .i64 (-2), .int .i64 0] 32) = w13 at *
  obtain ⟨e1, he1⟩ : ∃ e1 : El, e1 = ⟨3, [gX], 2, [(5, 1, 4)], .slice (some ⟨w3.heap.size, 0, none⟩) 1 1, .slice (some ⟨w4.heap.size, 0, none⟩) 1 1⟩ := ⟨_, rfl⟩
  obtain ⟨e2, he2⟩ : ∃ e2 : El, e2 = ⟨12, [gY], 1, [(9, 9, 9)], .slice (some ⟨w5.heap.size, 0, none⟩) 1 1, .slice (some ⟨w6.heap.size, 0, none⟩) 1 1⟩ := ⟨_, rfl⟩
  obtain ⟨e3, he3⟩ : ∃ e3 : El, e3 = ⟨15, [gX], 1, [(1, 1, 1)], .slice (some ⟨w7.heap.size, 0, none⟩) 1 1, .slice (some ⟨w8.heap.size, 0, none⟩) 1 1⟩ := ⟨_, rfl⟩
  have hR : RecS elC 4 w10 (.slice (some ⟨w9.heap.size, 0, none⟩) 3 3) [e1, e2, e3] := RecS.of_blk (l := [e1, e2, e3]) elC_len (by rw [he1, he2, he3]; exact B10) (by simp)
  have hab : [e1, e2, e3].map El.abs = rows25 := by rw [he1, he2, he3]; rfl
  have la : Later w10 w13 := (l11.trans l12).trans l13
  have l9a : Later w9 w13 := l10.trans la
  have l8a : Later w8 w13 := l9.trans l9a
  have l7a : Later w7 w13 := l8.trans l8a
  have l6a : Later w6 w13 := l7.trans l7a
  have l5a : Later w5 w13 := l6.trans l6a
  have l4a : Later w4 w13 := l5.trans l5a
  have l3a : Later w3 w13 := l4.trans l4a
  have l2a : Later w2 w13 := l3.trans l3a
  have l1a : Later w1 w13 := l2.trans l2a
  have l0a : Later w w13 := l1.trans l1a
  have st : ∀ {u k x}, Later u w13 → Blk u k #[.string x] 9 → StS w13 (.slice (some ⟨k, 0, none⟩) 1 1) [x] := fun hl hb => Sl.later (Sl.of_blk (xs := [.string _]) hb rfl (by unfold maxLen; omega)) hl
  have sa : ∀ {u k} {a : Ag}, Later u w13 → Blk u k #[.int .i64 a.1, .int .i64 a.2.1, .int .i64 a.2.2] 52 → AgS w13 (.slice (some ⟨k, 0, none⟩) 1 1) [a] := fun {_ _ a} hl hb => RecS.later (RecS.of_blk (l := [a]) agC_len hb (by simp)) hl
  have i1 : EIs w13 e1 := by rw [he1]; exact ⟨st l4a B4, sa (a := (5, 1, 4)) l5a B5⟩
  have i2 : EIs w13 e2 := by rw [he2]; exact ⟨st l6a B6, sa (a := (9, 9, 9)) l7a B7⟩
  have i3 : EIs w13 e3 := by rw [he3]; exact ⟨st l8a B8, sa (a := (1, 1, 1)) l9a B9⟩
  have hz : ∀ s : ByteArray, s.size = 1 → StZ [s] := fun s hs x hx => by rw [List.mem_singleton.1 hx, hs]; omega
  have hS : ScIs w13 (.slice (some ⟨w.heap.size, 0, none⟩) 1 1) (.slice (some ⟨w1.heap.size, 0, none⟩) 1 1) [gA] [gM] := ⟨st l1a B1, st l2a B2, hz _ rfl, hz _ rfl⟩
  have hT := RecS.later (RecS.of_blk (l := [(⟨0, ⟨#[]⟩⟩ : TD), ⟨3, gM⟩]) tdC_len B11 (by simp)) (l12.trans l13)
  have hBv := st (l12.trans l13 |> fun _ => l13) B12
  have hQ : q.Ok w13 := by
    rw [hq]
    have z1 : I64 0 := by decide
    have z2 : I64 20 := by decide
    have z3 : I64 (-2) := by decide
    have z4 : (0 : Nat) ≤ 140737488351232 := by decide
    have zf : (q25 (.slice (some ⟨w10.heap.size, 0, none⟩) 2 2) (.slice (some ⟨w11.heap.size, 0, none⟩) 1 1)).wh.Ok w13 := FT.ok_iff.2 ⟨z1, z4, z4, RecS.nil _, fun k hk => (by cases hk)⟩
    refine ⟨hT, fun t ht => ?_, z1, z2, z1, hBv, fun s hs => ?_, zf, RecS.nil _, fun t ht => (by cases ht), z3, z1⟩
    · simp only [q25, List.mem_cons, List.not_mem_nil, or_false] at ht
      rcases ht with rfl | rfl
      · exact ⟨by decide, by decide⟩
      · exact ⟨by decide, by decide⟩
    · have hs : s ∈ [gA] := hs
      rw [List.mem_singleton.1 hs]; decide
  have f1 : cellsAt w13 ⟨w2.heap.size, 0, none⟩ 2 = some [.slice (some ⟨w.heap.size, 0, none⟩) 1 1, .slice (some ⟨w1.heap.size, 0, none⟩) 1 1] := cellsAt_later l3a _ (Blk.cellsAt (l := [.slice (some ⟨w.heap.size, 0, none⟩) 1 1, .slice (some ⟨w1.heap.size, 0, none⟩) 1 1]) B3)
  have f2 : cellsAt w13 ⟨w12.heap.size, 0, none⟩ 12 = some (qdC q) := by rw [hq]; exact Blk.cellsAt (l := qdC (q25 _ _)) B13
  have hTy : TyQ [gA] [gM] q := by rw [hq]; exact ty25 _ _
  have hgr : grpL [gA] q rows25 = gr25 := by rw [hq]; exact grp25 _ _
  have hfin : ∀ {gs}, FinL [gM] q gr25 gs → gs = [(0, [gY], [1, 9]), (0, [gX], [3, 4])] := by rw [hq]; exact fin25
  have cr : ∀ (t n : Int) (x : ByteArray) (a : Ag) (dv av : Value), 1 ≤ n → n ≤ 1048576 → ARt a → 0 ≤ t → t ≤ 1099511627776 → Cr 1 1 ⟨t, [x], n, [a], dv, av⟩ := fun t n x a dv av h1 h2 h3 h4 h5 => ⟨⟨h1, h2, fun b hb => by
    have hb : b ∈ [a] := hb
    rw [List.mem_singleton.1 hb]; exact h3, rfl, rfl, by decide, by decide⟩, h4, h5⟩
  have c1 : Cr 1 1 e1 := by rw [he1]; exact cr _ _ _ _ _ _ (by decide) (by decide) (by decide) (by decide) (by decide)
  have c2 : Cr 1 1 e2 := by rw [he2]; exact cr _ _ _ _ _ _ (by decide) (by decide) (by decide) (by decide) (by decide)
  have c3 : Cr 1 1 e3 := by rw [he3]; exact cr _ _ _ _ _ _ (by decide) (by decide) (by decide) (by decide) (by decide)
  have hR13 := RecS.later hR la
  clear he1 he2 he3 hq B1 B2 B3 B4 B5 B6 B7 B8 B9 B10 B11 B12 B13 hR hT hBv st sa cr hz
  repeat' (first | (simp (disch := omega) only [push_cast, seval, f1, f2]) | refine iX ?_ ?_ <;> intros | refine aI (by omega) ?_ | refine dq ?_)
  refine (grun_c _ _ _ [gA] [gM] q [e1, e2, e3] w13 hS hQ hTy hR13 (fun e he => ?_) (by simp)).mono ?_
  · simp only [List.mem_cons, List.not_mem_nil, or_false] at he
    rcases he with rfl | rfl | rfl
    · exact ⟨i1, c1⟩
    · exact ⟨i2, c2⟩
    · exact ⟨i3, c3⟩
  rintro _ w14 ⟨vv, e, rfl, hf, l14⟩
  rw [hab, hgr] at hf
  have l014 := l0a.trans l14
  clear l1 l2 l3 l4 l5 l6 l7 l8 l9 l10 l11 l12 l13 la l9a l8a l7a l6a l5a l4a l3a l2a l1a l0a f1 f2 hS hQ hTy hR13 i1 i2 i3 c1 c2 c3
  rcases hf with ⟨_, _, hb⟩ | ⟨rfl, gs, hG, hI, hL⟩
  · exact absurd hb fold25.ok
  have hgs := hfin hL
  obtain ⟨g1, g2, rfl⟩ : ∃ g1 g2, gs = [g1, g2] := by
    have := congrArg List.length hgs
    rw [List.length_map] at this
    match gs, this with
    | [g1, g2], _ => exact ⟨g1, g2, rfl⟩
  simp only [List.map_cons, List.map_nil, List.cons.injEq, and_true] at hgs
  have hd1 : g1.d = [gY] := congrArg (fun r : GR => r.2.1) hgs.1
  have hk2 : g2.k = [3, 4] := congrArg (fun r : GR => r.2.2) hgs.2
  obtain ⟨oo, oc, rfl, _⟩ := RecS.slice hG
  obtain ⟨a, rfl, _⟩ := RecS.at gxC_len hG (i := 0) (by simp)
  have f1 := RecS.cell gxC_len hG (i := 0) (j := 1) (by simp) (x := g1.dv) rfl
  have f2 := RecS.cell gxC_len hG (i := 1) (j := 2) (by simp) (x := g2.kv) rfl
  have s1 := (hI g1 (by simp)).1
  have s2 := (hI g2 (by simp)).2
  rw [hd1] at s1
  rw [hk2] at s2
  obtain ⟨o1, c1, hv1, _, _, s1, _⟩ := Sl.openM s1
  obtain ⟨o2, c2, hv2, _, _, s2, _⟩ := Sl.openM s2
  rw [hv1] at f1
  rw [hv2] at f2
  obtain ⟨a1, rfl⟩ := s1.some (i := 0) (by simp)
  obtain ⟨a2, rfl⟩ := s2.some (i := 0) (by simp)
  have k1 := StS.atS s1 (i := 0) (by simp)
  have k2 := s2.atI (i := 0) (by simp)
  have k3 := s2.atI (i := 1) (by simp)
  rw [Nat.zero_mul, addr_add_zero] at f1
  rw [addr_add_zero] at k1 k2
  have k1 : w14.cell? a1 = some (.string gY) := k1
  have k2 : w14.cell? a2 = some (.int .i64 3) := k2
  have k3 : w14.cell? (a2.add 1) = some (.int .i64 4) := k3
  repeat' (first | (simp (disch := omega) only [push_cast, seval, ey, f1, f2, k1, k2, k3, List.length_cons, List.length_nil, addr_add_zero, decide_true]) | refine iX ?_ ?_ <;> intros | refine aI (by omega) ?_ | refine dq ?_)
  first | exact ⟨rfl, l014⟩ | exact l014
end Go.Proofs.YtnofalhkapmcnaaGreat
end
section
namespace Go.Fold
open Go.Key Go.Stab Go.Proofs.YtnofalhkapmcnaaGreat
abbrev Vl := Int × List Ag
def vl (r : R) : Vl := (r.2.2.1, r.2.2.2)
end Go.Fold
namespace Go.Proofs.YtnofalhkapmcnaaGreat
open Go.Vc Go.Key Go.Cub Go.Fold Go.Stab
theorem FinL.one {m : List ByteArray} {q : QD} {X Y : List R} {gs gs' : List GR} (h : FinL m q X gs) (h' : FinL m q Y gs') (hr : ∀ rows out, F X rows → F Y out → out = rows) : gs' = gs := by
  obtain ⟨rows, h1, s, h2, h3, h4⟩ := h
  obtain ⟨rows', g1, s', g2, g3, g4⟩ := h'
  rw [hr rows rows' h1 g1] at g3
  have : s' = s := one_way (rglt_swo _) h2 g2 fun x => by rw [g3.2, h3.2]
  rw [h4, g4, this]
end Go.Proofs.YtnofalhkapmcnaaGreat
end
section
set_option linter.unusedSimpArgs false
namespace Go.Proofs.YtnofalhkapmcnaaGreat
open Go.Vc Go.Key Go.Cub Go.Fold Go.Stab
set_option maxRecDepth 100000
def f25 (d m : List ByteArray) (q : QD) (l : List El) : Bool := decide (F13 d m l) && f23 d m q && decide (ckQ d m q = 0)
theorem f23_cnt {d m : List ByteArray} {q : QD} (h : f23 d m q = true) : q.wh.cnt ≤ 1000000 ∧ q.bl.length ≤ 1000 := by
  unfold f23 at h
  simp only [Bool.and_eq_true, decide_eq_true_eq] at h
  obtain ⟨⟨⟨⟨⟨⟨⟨_, _⟩, h3⟩, _⟩, _⟩, h6⟩, _⟩, _⟩ := h
  have := FT.cnt_prt q.wh 300 h6
  have := h3.1
  omega
theorem fits25_c (dv mv v : Value) (d m : List ByteArray) (q : QD) (l : List El) (w : World) (h : ScIs w dv mv d m) (hq : q.Ok w) (hl : RecS elC 4 w v l) (hes : ∀ e ∈ l, EIs w e ∧ StZ e.d) : FnC Tryz.prog 5 #[scV dv mv, .agg (qdC q).toArray, v] w fun r w' => r = .bool (f25 d m q l) ∧ Later w w' := by
  have esc : scV dv mv = .agg #[dv, mv] := rfl
  rw [esc]
  obtain ⟨lo, lc, rfl, gl1, gl2⟩ := hl.slice
  refine enter5 _ _ _ ?_
  unfold B5
  have eca : (Value.agg (qdC q).toArray).cells = (qdC q).toArray := rfl
  have ecb : (Value.agg #[dv, mv]).cells = #[dv, mv] := rfl
  obtain ⟨l1, s1, F1⟩ := box2 w dv mv 24
  have B2 := Blk.new (w.alloc (.cells #[dv, mv] 24)) (qdC q).toArray 32
  have l2 := later_alloc (w.alloc (.cells #[dv, mv] 24)) (.cells (qdC q).toArray 32)
  rw [s1] at B2
  repeat' (first | (simp (disch := omega) only [push_cast, seval, eca, ecb, s1]) | refine iX ?_ ?_ <;> intros | refine aI (by omega) ?_ | fail)
  have l01 := l1.trans l2
  have FS : ∀ w', Later ((w.alloc (.cells #[dv, mv] 24)).alloc (.cells (qdC q).toArray 32)) w' → cellsAt w' ⟨w.heap.size, 0, none⟩ 2 = some [dv, mv] := fun w' hl => (F1 w' (l2.trans hl)).2.2
  clear F1 l1 l2 s1
  generalize (w.alloc (.cells #[dv, mv] 24)).alloc (.cells (qdC q).toArray 32) = w1 at *
  generalize hkq : w.heap.size = kf at *
  have FQ := fun w' (hl : Later w1 w') => Blk.cellsAt (l := qdC q) (qdLater B2 hl)
  have FQ : ∀ w', Later w1 w' → cellsAt w' ⟨kf + 1, 0, none⟩ 12 = some (qdC q) := FQ
  have fs1 := FS w1 (Later.refl _)
  repeat' (first | (simp (disch := omega) only [push_cast, seval, fs1]) | refine iX ?_ ?_ <;> intros | refine aI (by omega) ?_ | refine dq ?_)
  refine (fits13_c dv mv _ d m l w1 (h.later l01) (hl.later l01) (fun e he => ⟨(hes e he).1.later l01, (hes e he).2⟩)).mono ?_
  rintro _ w2 ⟨rfl, l2⟩
  have fs2 := FS w2 l2
  have fq2 := FQ w2 l2
  repeat' (first | (simp (disch := omega) only [push_cast, seval, fs2, fq2]) | refine iX ?_ ?_ <;> intros | refine aI (by omega) ?_ | refine dq ?_)
  refine (fits23_c dv mv d m q w2 (h.later (l01.trans l2)) (hq.later (l01.trans l2))).mono ?_
  rintro _ w3 ⟨rfl, l3⟩
  have l13 := l2.trans l3
  have l03 := l01.trans l13
  unfold f25
  cases h13 : decide (F13 d m l) with
  | false =>
    repeat' (first | (simp (disch := omega) only [push_cast, seval]) | refine iX ?_ ?_ <;> intros | refine aI (by omega) ?_ | refine dq ?_)
    first | exact ⟨(by simp), l03⟩ | exact l03
  | true =>
  cases h23 : f23 d m q with
  | false =>
    repeat' (first | (simp (disch := omega) only [push_cast, seval]) | refine iX ?_ ?_ <;> intros | refine aI (by omega) ?_ | refine dq ?_)
    first | exact ⟨(by simp), l03⟩ | exact l03
  | true =>
  obtain ⟨k1, k2⟩ := f23_cnt h23
  have fs3 := FS w3 l13
  have fq3 := FQ w3 l13
  repeat' (first | (simp (disch := omega) only [push_cast, seval, fs3, fq3]) | refine iX ?_ ?_ <;> intros | refine aI (by omega) ?_ | refine dq ?_)
  refine (check_c dv mv d m q w3 (h.later l03) (hq.later l03) k1 k2).mono ?_
  rintro _ w4 ⟨rfl, l4⟩
  repeat' (first | (simp (disch := omega) only [push_cast, seval]) | refine iX ?_ ?_ <;> intros | refine aI (by omega) ?_ | refine dq ?_)
  first | exact ⟨(by simp), (l03.trans l4)⟩ | exact (l03.trans l4)
theorem ty_of {d m : List ByteArray} {q : QD} (h : ckQ d m q = 0) : TyQ d m q ∧ (q.wh.op = 0 ∧ q.wh.kids.length = 0 ∨ q.wh.form 30 = true) ∧ 0 ≤ q.ev := by
  have hsh : shOk q = true := by
    cases h1 : shOk q with
    | true => rfl
    | false => unfold ckQ at h; rw [h1, if_pos rfl] at h; cases h
  have hns : nsOk d m q = true := by
    cases h1 : nsOk d m q with
    | true => rfl
    | false => unfold ckQ at h; rw [hsh, h1, if_neg (by simp), if_pos rfl] at h; cases h
  have htp : tpOk q = true := by
    cases h1 : tpOk q with
    | true => rfl
    | false => unfold ckQ at h; rw [hsh, hns, h1, if_neg (by simp), if_neg (by simp), if_pos rfl] at h; cases h
  unfold shOk szOk whOk at hsh
  unfold nsOk at hns
  unfold tpOk at htp
  simp only [Bool.and_eq_true, decide_eq_true_eq, List.all_eq_true] at hsh hns htp
  obtain ⟨⟨⟨⟨⟨⟨s1, s2⟩, s3⟩, s4⟩, s5⟩, s6⟩, s7⟩ := hsh
  obtain ⟨⟨n1, n2⟩, n3⟩ := hns
  obtain ⟨⟨⟨_, _⟩, t3⟩, t4⟩ := htp
  have tm : ∀ t : TD, tmOk t = true → mtOk m t = true → TmOk m t := fun t h1 h2 => by
    unfold tmOk at h1
    unfold mtOk at h2
    simp only [Bool.and_eq_true, decide_eq_true_eq, Bool.or_eq_true] at h1 h2
    refine ⟨h1.1.1, h1.1.2, fun h0 => ?_⟩
    rcases h2 with h2 | h2
    · exact absurd h2 h0
    · exact inL_iff.1 h2
  obtain ⟨u1, u2, u3, u4, u5, u6, u7⟩ := t4
  refine ⟨⟨fun n hn => inL_iff.1 (n1 n (List.mem_append_left _ hn)), s3, fun t ht => tm t (s5 t ht) (n2 t ht), s2, fun h hh => tm h.t ?_ (n3 h hh), by omega, u6⟩, ?_, ?_⟩
  · have := s6 h hh
    unfold hvOk at this
    simp only [Bool.and_eq_true] at this
    exact this.1.1.1.1
  · split at s7
    · rename_i h0
      simp only [Bool.and_eq_true, decide_eq_true_eq] at s7
      exact .inl ⟨h0, s7.1.1⟩
    · exact .inr s7
  · unfold evOk grOk at t3
    simp only [Bool.or_eq_true, Bool.and_eq_true, decide_eq_true_eq] at t3
    omega
theorem cr_of {d m : List ByteArray} {l : List El} (h : F13 d m l) : ∀ e ∈ l, Cr d.length m.length e := fun e he => by
  obtain ⟨h1, h2, h3, h4, h5⟩ := h
  obtain ⟨r1, r2, _, r4, r5, r6, r7, r8⟩ := h5 e he
  exact ⟨⟨r7, r8, r4, r1, r2, by have := h4.2.2.2.1; omega, by have := h4.2.2.2.2; omega⟩, r5, r6⟩
end Go.Proofs.YtnofalhkapmcnaaGreat
end
section
namespace Go.Proofs.YtnofalhkapmcnaaGreat
open Go.Vc Go.RowKit Go.ChangeShapes Go.Key
set_option maxRecDepth 100000
section
variable {H : Type} {enc : TypeId × Value → H} {w : World} {sp : Nat → Bool} {hd : Bool} {M : Nat}
theorem z_agg3 : OZ M enc Tryz.prog w sp hd 52 (fun cs => ∃ a : Ag, cs = agC a ∧ True) :=
  (oz_struct (S := 3) Tryz.underlying52 (by kernel_rfl)).mono fun cs ⟨hl, hf⟩ => by
    match cs, hl with
    | [c0, c1, c2], _ =>
      obtain ⟨a, ha, _⟩ := hf 0 _ 1 _ rfl (by kernel_rfl) (fun _ => z_int)
      obtain ⟨b, hb, _⟩ := hf 1 _ 1 _ rfl (by kernel_rfl) (fun _ => z_int)
      obtain ⟨c, hc, _⟩ := hf 2 _ 1 _ rfl (by kernel_rfl) (fun _ => z_int)
      obtain rfl : c0 = _ := (List.cons.inj ha).1
      obtain rfl : c1 = _ := (List.cons.inj hb).1
      obtain rfl : c2 = _ := (List.cons.inj hc).1
      exact ⟨(a, b, c), rfl, trivial⟩
def RowQ (w : World) (e : El) : Prop := EIs w e ∧ StZ e.d
theorem z_row : OZ M enc Tryz.prog w sp hd 55 (fun cs => ∃ e : El, cs = elC e ∧ RowQ w e) :=
  (oz_struct (S := 4) Tryz.underlying55 (by kernel_rfl)).mono fun cs ⟨hl, hf⟩ => by
    match cs, hl with
    | [c0, c1, c2, c3], _ =>
      obtain ⟨t, ht, _⟩ := hf 0 _ 1 _ rfl (by kernel_rfl) (fun _ => z_int)
      obtain ⟨dv, d, hd, sd, zd⟩ := hf 1 _ 1 _ rfl (by kernel_rfl) (fun _ => z_strs)
      obtain ⟨n, hn, _⟩ := hf 2 _ 1 _ rfl (by kernel_rfl) (fun _ => z_int)
      obtain ⟨av, a, ha, sa, _, _⟩ := hf 3 _ 1 _ rfl (by kernel_rfl) (fun _ => oz_slice (en := agC) (Q := fun _ => True) (s := 3) Tryz.underlying53 (by kernel_rfl) z_agg3)
      obtain rfl : c0 = _ := (List.cons.inj ht).1
      obtain rfl : c1 = _ := (List.cons.inj hd).1
      obtain rfl : c2 = _ := (List.cons.inj hn).1
      obtain rfl : c3 = _ := (List.cons.inj ha).1
      exact ⟨⟨t, d, n, a, c1, c3⟩, rfl, ⟨sd, sa⟩, fun s hs => Nat.le_trans (zd s hs) (by unfold Bz; omega)⟩
theorem z_rows : OZ M enc Tryz.prog w sp hd 33 (fun cs => ∃ (v : Value) (l : List El), cs = [v] ∧ RecS elC 4 w v l ∧ ∀ e ∈ l, RowQ w e) :=
  (oz_slice (en := elC) (Q := RowQ w) (s := 4) Tryz.underlying33 (by kernel_rfl) z_row).mono fun cs ⟨v, l, h1, h2, h3, _⟩ => ⟨v, l, h1, h2, h3⟩
end
end Go.Proofs.YtnofalhkapmcnaaGreat
end
section
namespace Go.Proofs.YtnofalhkapmcnaaGreat
open Go.Vc
set_option maxRecDepth 100000
variable (Q : Post) (ds : List Deferred) (σ : Env) (w : World)
/-! 8 columbary/columbaryref25.Run (params #[24, 32, 33], results #[(.tmp 6), (.tmp 7)], 26 slots) -/
abbrev r8_0 : List VOp :=
  [zBF 3 24 0,
   zBF 4 32 1,
   zF 6 36,
   zE 7 0 37]
abbrev r8_1 : List VOp :=
  [lda 11 24 3,
   lda 12 32 4,
   mv 13 2 33,
   zBT 14 10 11 12 13 24 32 33 40,
   mv 10 14 40,
   ext 15 10 0 33,
   ext 16 10 1 37,
   asg 8 15 33,
   asg 9 16 37]
abbrev r8_2 : List VOp :=
  [mv 17 9 37,
   zBA 18 37 17]
abbrev r8_3 : List VOp :=
  [mv 19 9 37,
   zF 6 36,
   asg 7 19 37]
abbrev r8_4 : List VOp :=
  [lda 20 24 3,
   lda 21 32 4,
   mv 22 8 33,
   zBT 23 25 20 21 22 24 32 33 38,
   ext 24 23 0 36,
   ext 25 23 1 37,
   asg 6 24 36,
   asg 7 25 37]
def B8 : VC :=
  (.seq (.region r8_0) (.seq (.region r8_1) (.seq (.seq (.region r8_2) (.cond (.tmp 18) (.seq (.region r8_3) .ret) .skip)) (.seq (.region r8_4) .ret))))
theorem code8 : ∃ c, Tryz.f8.body = some c ∧ abs Tryz.f8.ntmps c = B8 := ⟨_, rfl, by kernel_rfl⟩
theorem hb8 : HasBody Tryz.prog 8 := hasBody_of Tryz.func8 (by kernel_rfl)
theorem enter8 (x0 x1 x2 : Value) : Ent 8 B8 #[(.tmp 6), (.tmp 7)] [x0, x1, x2] := ent code8 hb8 Tryz.func8 rfl rfl
/-! 10 columbary/columbaryref25.Fold (params #[24, 32, 33], results #[(.tmp 6), (.tmp 7)], 109 slots) -/
@[push_cast] def W10_0 : List Nat := [8, 9, 10, 11, 12, 13, 14, 15, 16, 17, 18, 19, 20, 21, 22, 23, 24, 25, 26, 27, 28, 29, 30, 31, 32, 33, 34, 35, 36, 37, 38, 39, 40, 41, 42, 43, 44, 45, 46, 47, 48, 49, 50, 51, 52, 53, 54, 55, 56, 57, 58, 59, 60, 61, 62, 63, 64, 65, 66, 67, 68, 69, 70, 71, 72, 73, 74, 75, 76, 77, 78, 79, 80, 81, 82, 83, 84, 85, 86, 87, 88, 89, 90, 91, 92, 93, 94, 95, 96, 97, 98, 99, 100, 101, 102, 103, 104]
@[push_cast] def W10_1 : List Nat := [12, 13, 14, 70, 71, 72, 73, 74, 75, 76, 77, 78, 79, 80, 81, 82, 83, 84, 85, 86, 87, 88, 89, 90, 91, 92, 93, 94, 95, 96, 97, 98, 99, 100]
abbrev r10_0 : List VOp :=
  [zBF 3 24 0,
   zBF 4 32 1,
   zF 6 33,
   zE 7 0 37]
abbrev r10_1 : List VOp :=
  [zF 8 33]
abbrev r10_2 : List VOp :=
  [zE 9 0 3]
abbrev r10_3 : List VOp :=
  [mv 15 9 3,
   mv 16 2 33,
   zBM 17 16 33,
   zX 18 3 15 17 4]
def r10_5 : List (VOp × List Nat) := [(⟨some 21, .fieldAddr 32 (.tmp 4) 5, 0, none⟩, [4]), (⟨some 22, .load 29 (.tmp 21), 29, none⟩, [21]), (⟨some 23, .load 24 (.tmp 3), 24, none⟩, [3]), (⟨some 24, .move (.tmp 2), 33, none⟩, [2]), (⟨some 25, .move (.tmp 9), 3, none⟩, [9]), (⟨some 26, .indexAddr 33 (.tmp 24) (.tmp 25), 0, none⟩, [24, 25]), (⟨some 27, .fieldAddr 55 (.tmp 26) 1, 0, none⟩, [26]), (⟨some 28, .load 22 (.tmp 27), 22, none⟩, [27]), (⟨some 29, .call ⟨.value (.func 29), #[.tmp 22, .tmp 23, .tmp 28], #[29, 24, 22]⟩, 4, none⟩, [22, 23, 28]), (⟨some 10, .assign (.tmp 29), 4, none⟩, [29])]
def r10_6 : List (VOp × List Nat) := [(⟨some 30, .move (.tmp 10), 4, none⟩, [10]), (⟨some 31, .unOp .not 4 (.tmp 30), 4, none⟩, [30]), (⟨some 32, .move (.tmp 31), 4, none⟩, [31]), (⟨some 33, .move (.tmp 2), 33, some (32, false)⟩, [2, 32]), (⟨some 34, .move (.tmp 9), 3, some (32, false)⟩, [9, 32]), (⟨some 35, .indexAddr 33 (.tmp 33) (.tmp 34), 0, some (32, false)⟩, [33, 34, 32]), (⟨some 36, .fieldAddr 55 (.tmp 35) 0, 0, some (32, false)⟩, [35, 32]), (⟨some 37, .load 3 (.tmp 36), 3, some (32, false)⟩, [36, 32]), (⟨some 38, .fieldAddr 32 (.tmp 4) 1, 0, some (32, false)⟩, [4, 32]), (⟨some 39, .load 3 (.tmp 38), 3, some (32, false)⟩, [38, 32]), (⟨some 40, .binOp .lss 3 (.tmp 37) (.tmp 39) 3, 4, some (32, false)⟩, [37, 39, 32]), (⟨some 41, .pick (.tmp 32) (.const (.bool true)) (.tmp 40), 4, none⟩, [32, 40]), (⟨some 42, .move (.tmp 41), 4, none⟩, [41]), (⟨some 43, .move (.tmp 2), 33, some (42, false)⟩, [2, 42]), (⟨some 44, .move (.tmp 9), 3, some (42, false)⟩, [9, 42]), (⟨some 45, .indexAddr 33 (.tmp 43) (.tmp 44), 0, some (42, false)⟩, [43, 44, 42]), (⟨some 46, .fieldAddr 55 (.tmp 45) 0, 0, some (42, false)⟩, [45, 42]), (⟨some 47, .load 3 (.tmp 46), 3, some (42, false)⟩, [46, 42]), (⟨some 48, .fieldAddr 32 (.tmp 4) 2, 0, some (42, false)⟩, [4, 42]), (⟨some 49, .load 3 (.tmp 48), 3, some (42, false)⟩, [48, 42]), (⟨some 50, .binOp .geq 3 (.tmp 47) (.tmp 49) 3, 4, some (42, false)⟩, [47, 49, 42]), (⟨some 51, .pick (.tmp 42) (.const (.bool true)) (.tmp 50), 4, none⟩, [42, 50])]
def r10_7 : List (VOp × List Nat) := [(⟨some 52, .load 32 (.tmp 4), 32, none⟩, [4]), (⟨some 53, .move (.tmp 2), 33, none⟩, [2]), (⟨some 54, .move (.tmp 9), 3, none⟩, [9]), (⟨some 55, .indexAddr 33 (.tmp 53) (.tmp 54), 0, none⟩, [53, 54]), (⟨some 56, .fieldAddr 55 (.tmp 55) 0, 0, none⟩, [55]), (⟨some 57, .load 3 (.tmp 56), 3, none⟩, [56]), (⟨some 58, .call ⟨.value (.func 22), #[.tmp 52, .tmp 57], #[32, 3]⟩, 3, none⟩, [52, 57]), (⟨some 59, .move (.tmp 2), 33, none⟩, [2]), (⟨some 60, .move (.tmp 9), 3, none⟩, [9]), (⟨some 61, .indexAddr 33 (.tmp 59) (.tmp 60), 0, none⟩, [59, 60]), (⟨some 62, .fieldAddr 55 (.tmp 61) 2, 0, none⟩, [61]), (⟨some 63, .load 3 (.tmp 62), 3, none⟩, [62]), (⟨some 64, .move (.tmp 2), 33, none⟩, [2]), (⟨some 65, .move (.tmp 9), 3, none⟩, [9]), (⟨some 66, .indexAddr 33 (.tmp 64) (.tmp 65), 0, none⟩, [64, 65]), (⟨some 67, .fieldAddr 55 (.tmp 66) 3, 0, none⟩, [66]), (⟨some 68, .load 53 (.tmp 67), 53, none⟩, [67]), (⟨some 69, .build 55 #[(0, (.tmp 58)), (2, (.tmp 63)), (3, (.tmp 68))], 55, none⟩, [58, 63, 68]), (⟨some 11, .alloc 55, 0, none⟩, []), (⟨none, .store 55 (.tmp 11) (.tmp 69), 0, none⟩, [11, 69])]
abbrev r10_8 : List VOp :=
  [zE 12 0 3]
abbrev r10_9 : List VOp :=
  [mv 70 12 3,
   fad 71 32 4 4,
   lda 72 22 71,
   zBM 73 72 22,
   zX 74 3 70 73 4]
def r10_11 : List (VOp × List Nat) := [(⟨some 78, .fieldAddr 24 (.tmp 3) 0, 0, none⟩, [3]), (⟨some 79, .load 22 (.tmp 78), 22, none⟩, [78]), (⟨some 80, .fieldAddr 32 (.tmp 4) 4, 0, none⟩, [4]), (⟨some 81, .load 22 (.tmp 80), 22, none⟩, [80]), (⟨some 82, .move (.tmp 12), 3, none⟩, [12]), (⟨some 83, .indexAddr 22 (.tmp 81) (.tmp 82), 0, none⟩, [81, 82]), (⟨some 84, .load 9 (.tmp 83), 9, none⟩, [83]), (⟨some 85, .call ⟨.value (.func 30), #[.tmp 79, .tmp 84], #[22, 9]⟩, 62, none⟩, [79, 84]), (⟨some 77, .move (.tmp 85), 62, none⟩, [85]), (⟨some 86, .extract (.tmp 77) 0, 3, none⟩, [77]), (⟨some 87, .extract (.tmp 77) 1, 4, none⟩, [77]), (⟨some 13, .assign (.tmp 86), 3, none⟩, [86]), (⟨some 14, .assign (.tmp 87), 4, none⟩, [87])]
def r10_12 : List (VOp × List Nat) := [(⟨some 88, .fieldAddr 55 (.tmp 11) 1, 0, none⟩, [11]), (⟨some 89, .load 22 (.tmp 88), 22, none⟩, [88]), (⟨some 90, .move (.tmp 2), 33, none⟩, [2]), (⟨some 91, .move (.tmp 9), 3, none⟩, [9]), (⟨some 92, .indexAddr 33 (.tmp 90) (.tmp 91), 0, none⟩, [90, 91]), (⟨some 93, .fieldAddr 55 (.tmp 92) 1, 0, none⟩, [92]), (⟨some 94, .load 22 (.tmp 93), 22, none⟩, [93]), (⟨some 95, .move (.tmp 13), 3, none⟩, [13]), (⟨some 96, .indexAddr 22 (.tmp 94) (.tmp 95), 0, none⟩, [94, 95]), (⟨some 97, .load 9 (.tmp 96), 9, none⟩, [96]), (⟨some 98, .buildSlice 22 1 #[(0, (.tmp 97))], 22, none⟩, [97]), (⟨some 99, .call ⟨.builtin .append, #[.tmp 89, .tmp 98], #[22, 22]⟩, 22, none⟩, [89, 98]), (⟨some 100, .fieldAddr 55 (.tmp 11) 1, 0, none⟩, [11]), (⟨none, .store 22 (.tmp 100) (.tmp 99), 0, none⟩, [100, 99])]
abbrev r10_10 : List VOp :=
  [mv 75 12 3,
   zG 76 75,
   asg 12 76 3]
abbrev r10_13 : List VOp :=
  [mv 101 8 33,
   lda 102 55 11,
   zBJ 103 33 102,
   zBL 104 101 103 33,
   asg 8 104 33]
abbrev r10_4 : List VOp :=
  [mv 19 9 3,
   zG 20 19,
   asg 9 20 3]
abbrev r10_14 : List VOp :=
  [mv 105 8 33,
   zBW 106 31 105 33 40,
   ext 107 106 0 33,
   ext 108 106 1 37,
   asg 6 107 33,
   asg 7 108 37]
def B10 : VC :=
  (.seq (.region r10_0) (.seq (.region r10_1) (.seq (.seq (.region r10_2) (.block 0 (.loop (.seq (.seq (.region r10_3) (.cond (.tmp 18) .skip (.exit 0))) (.seq (.block 1 (.seq (.draw (dR r10_5) 3) (.seq (.seq (.draw (dR r10_6) 3) (.cond (.tmp 51) (.exit 1) .skip)) (.seq (.draw (dR r10_7) 2) (.seq (.seq (.region r10_8) (.block 2 (.loop (.seq (.seq (.region r10_9) (.cond (.tmp 74) .skip (.exit 2))) (.seq (.block 3 (.seq (.draw (dR r10_11) 2) (.draw (dR r10_12) 4))) (.region r10_10)))))) (.region r10_13)))))) (.region r10_4)))))) (.seq (.region r10_14) .ret))))
theorem code10 : ∃ c, Tryz.f10.body = some c ∧ abs Tryz.f10.ntmps c = B10 := ⟨_, rfl, by kernel_rfl⟩
theorem hb10 : HasBody Tryz.prog 10 := hasBody_of Tryz.func10 (by kernel_rfl)
theorem enter10 (x0 x1 x2 : Value) : Ent 10 B10 #[(.tmp 6), (.tmp 7)] [x0, x1, x2] := ent code10 hb10 Tryz.func10 rfl rfl
@[push_cast] def vr10_5 := vD r10_5.eq_1 rfl 3
@[push_cast] def vr10_6 := vD r10_6.eq_1 rfl 3
@[push_cast] def vr10_7 := vD r10_7.eq_1 rfl 2
@[push_cast] def vr10_11 := vD r10_11.eq_1 rfl 2
@[push_cast] def vr10_12 := vD r10_12.eq_1 rfl 4
/-! 13 columbary/group.Same (params #[36, 36], results #[(.tmp 4)], 8 slots) -/
abbrev r13_0 : List VOp :=
  [zC 4]
abbrev r13_1 : List VOp :=
  [mv 5 0 36,
   mv 6 1 36,
   ⟨some 7, .call ⟨.value (.func 34), #[(.tmp 5), (.tmp 6), (.func 35)], #[36, 36, 70]⟩, 4, none⟩,
   asg 4 7 4]
def B13 : VC :=
  (.seq (.region r13_0) (.seq (.region r13_1) .ret))
theorem code13 : ∃ c, Tryz.f13.body = some c ∧ abs Tryz.f13.ntmps c = B13 := ⟨_, rfl, by kernel_rfl⟩
theorem hb13 : HasBody Tryz.prog 13 := hasBody_of Tryz.func13 (by kernel_rfl)
theorem enter13 (x0 x1 : Value) : Ent 13 B13 #[(.tmp 4)] [x0, x1] := ent code13 hb13 Tryz.func13 rfl rfl
/-! 22 columbary/columbaryref23.Bucket (params #[32, 3], results #[(.tmp 4)], 17 slots) -/
abbrev r22_0 : List VOp :=
  [zBF 2 32 0,
   zE 4 0 3]
abbrev r22_1 : List VOp :=
  [fad 5 32 2 3,
   lda 6 3 5,
   zI 7 3 6 0]
abbrev r22_2 : List VOp :=
  [fad 8 32 2 1,
   lda 9 3 8,
   asg 4 9 3]
def r22_3 : List (VOp × List Nat) := [(⟨some 10, .move (.tmp 1), 3, none⟩, [1]), (⟨some 11, .fieldAddr 32 (.tmp 2) 3, 0, none⟩, [2]), (⟨some 12, .load 3 (.tmp 11), 3, none⟩, [11]), (⟨some 13, .binOp .quo 3 (.tmp 10) (.tmp 12) 3, 3, none⟩, [10, 12]), (⟨some 14, .fieldAddr 32 (.tmp 2) 3, 0, none⟩, [2]), (⟨some 15, .load 3 (.tmp 14), 3, none⟩, [14]), (⟨some 16, .binOp .mul 3 (.tmp 13) (.tmp 15) 3, 3, none⟩, [13, 15]), (⟨some 4, .assign (.tmp 16), 3, none⟩, [16])]
def B22 : VC :=
  (.seq (.region r22_0) (.seq (.seq (.region r22_1) (.cond (.tmp 7) (.seq (.region r22_2) .ret) .skip)) (.seq (.draw (dR r22_3) 3) .ret)))
theorem code22 : ∃ c, Tryz.f22.body = some c ∧ abs Tryz.f22.ntmps c = B22 := ⟨_, rfl, by kernel_rfl⟩
theorem hb22 : HasBody Tryz.prog 22 := hasBody_of Tryz.func22 (by kernel_rfl)
theorem enter22 (x0 x1 : Value) : Ent 22 B22 #[(.tmp 4)] [x0, x1] := ent code22 hb22 Tryz.func22 rfl rfl
@[push_cast] def vr22_3 := vD r22_3.eq_1 rfl 3
/-! 25 columbary/columbaryref25.Finish (params #[24, 32, 33], results #[(.tmp 6), (.tmp 7)], 119 slots) -/
@[push_cast] def W25_0 : List Nat := [9, 10, 11, 12, 13, 14, 15, 24, 25, 26, 27, 28, 29, 30, 31, 32, 33, 34, 35, 36, 37, 38, 39, 40, 41, 42, 43, 44, 45, 46, 47, 48, 49, 50, 51, 52, 53, 54, 55, 56, 57, 58, 59, 60, 61, 62, 63, 64, 65, 66, 67, 68, 69, 70, 71, 72, 73, 74, 75, 76, 77, 78, 79, 80, 81, 82, 83, 84, 85, 86, 87, 88, 89, 90, 91, 92, 93, 94, 95, 96, 97, 98, 99, 100, 101, 102, 103]
@[push_cast] def W25_1 : List Nat := [13, 50, 51, 52, 53, 54, 55, 56, 57, 58, 59, 60, 61, 62, 63, 64, 65, 66, 67, 68, 69, 70, 71, 72]
@[push_cast] def W25_2 : List Nat := [14, 75, 76, 77, 78, 79, 80, 81, 82, 83, 84, 85, 86, 87, 88]
abbrev r25_0 : List VOp :=
  [zBF 3 24 0,
   zBF 4 32 1,
   zF 6 36,
   zE 7 0 37]
abbrev r25_1 : List VOp :=
  [mv 17 2 33,
   zBW 18 31 17 33 40,
   mv 16 18 40,
   ext 19 16 0 33,
   ext 20 16 1 37,
   asg 2 19 33,
   asg 8 20 37]
abbrev r25_2 : List VOp :=
  [mv 21 8 37,
   zBA 22 37 21]
abbrev r25_3 : List VOp :=
  [mv 23 8 37,
   zF 6 36,
   asg 7 23 37]
abbrev r25_4 : List VOp :=
  [zF 9 36]
abbrev r25_5 : List VOp :=
  [zE 10 0 3]
abbrev r25_6 : List VOp :=
  [mv 24 10 3,
   mv 25 2 33,
   zBM 26 25 33,
   zX 27 3 24 26 4]
def r25_8 : List (VOp × List Nat) := [(⟨some 30, .load 24 (.tmp 3), 24, none⟩, [3]), (⟨some 31, .load 32 (.tmp 4), 32, none⟩, [4]), (⟨some 32, .move (.tmp 2), 33, none⟩, [2]), (⟨some 33, .move (.tmp 10), 3, none⟩, [10]), (⟨some 34, .indexAddr 33 (.tmp 32) (.tmp 33), 0, none⟩, [32, 33]), (⟨some 35, .load 55 (.tmp 34), 55, none⟩, [34]), (⟨some 36, .call ⟨.value (.func 61), #[.tmp 30, .tmp 31, .tmp 35], #[24, 32, 55]⟩, 4, none⟩, [30, 31, 35]), (⟨some 11, .assign (.tmp 36), 4, none⟩, [36])]
abbrev r25_9 : List VOp :=
  [mv 37 11 4,
   zCR 38 37]
def r25_10 : List (VOp × List Nat) := [(⟨some 39, .move (.tmp 2), 33, none⟩, [2]), (⟨some 40, .move (.tmp 10), 3, none⟩, [10]), (⟨some 41, .indexAddr 33 (.tmp 39) (.tmp 40), 0, none⟩, [39, 40]), (⟨some 42, .fieldAddr 55 (.tmp 41) 0, 0, none⟩, [41]), (⟨some 43, .load 3 (.tmp 42), 3, none⟩, [42]), (⟨some 44, .move (.tmp 2), 33, none⟩, [2]), (⟨some 45, .move (.tmp 10), 3, none⟩, [10]), (⟨some 46, .indexAddr 33 (.tmp 44) (.tmp 45), 0, none⟩, [44, 45]), (⟨some 47, .fieldAddr 55 (.tmp 46) 1, 0, none⟩, [46]), (⟨some 48, .load 22 (.tmp 47), 22, none⟩, [47]), (⟨some 49, .build 61 #[(0, (.tmp 43)), (1, (.tmp 48))], 61, none⟩, [43, 48]), (⟨some 12, .alloc 61, 0, none⟩, []), (⟨none, .store 61 (.tmp 12) (.tmp 49), 0, none⟩, [12, 49])]
abbrev r25_11 : List VOp :=
  [zE 13 0 3]
abbrev r25_12 : List VOp :=
  [mv 50 13 3,
   fad 51 32 4 0,
   lda 52 25 51,
   zBM 53 52 25,
   zX 54 3 50 53 4]
def r25_14 : List (VOp × List Nat) := [(⟨some 57, .fieldAddr 61 (.tmp 12) 2, 0, none⟩, [12]), (⟨some 58, .load 59 (.tmp 57), 59, none⟩, [57]), (⟨some 59, .load 24 (.tmp 3), 24, none⟩, [3]), (⟨some 60, .fieldAddr 32 (.tmp 4) 0, 0, none⟩, [4]), (⟨some 61, .load 25 (.tmp 60), 25, none⟩, [60]), (⟨some 62, .move (.tmp 13), 3, none⟩, [13]), (⟨some 63, .indexAddr 25 (.tmp 61) (.tmp 62), 0, none⟩, [61, 62]), (⟨some 64, .load 58 (.tmp 63), 58, none⟩, [63]), (⟨some 65, .move (.tmp 2), 33, none⟩, [2]), (⟨some 66, .move (.tmp 10), 3, none⟩, [10]), (⟨some 67, .indexAddr 33 (.tmp 65) (.tmp 66), 0, none⟩, [65, 66]), (⟨some 68, .load 55 (.tmp 67), 55, none⟩, [67]), (⟨some 69, .call ⟨.value (.func 62), #[.tmp 59, .tmp 64, .tmp 68], #[24, 58, 55]⟩, 3, none⟩, [59, 64, 68]), (⟨some 70, .buildSlice 59 1 #[(0, (.tmp 69))], 59, none⟩, [69]), (⟨some 71, .call ⟨.builtin .append, #[.tmp 58, .tmp 70], #[59, 59]⟩, 59, none⟩, [58, 70]), (⟨some 72, .fieldAddr 61 (.tmp 12) 2, 0, none⟩, [12]), (⟨none, .store 59 (.tmp 72) (.tmp 71), 0, none⟩, [72, 71])]
abbrev r25_13 : List VOp :=
  [mv 55 13 3,
   zG 56 55,
   asg 13 56 3]
abbrev r25_15 : List VOp :=
  [mv 73 9 36,
   zBM 74 73 36,
   asg 14 74 3]
def r25_16 : List (VOp × List Nat) := [(⟨some 75, .move (.tmp 14), 3, none⟩, [14]), (⟨some 76, .binOp .gtr 3 (.tmp 75) (.const (.int .i64 0)) 3, 4, none⟩, [75]), (⟨some 77, .move (.tmp 76), 4, none⟩, [76]), (⟨some 78, .load 32 (.tmp 4), 32, some (77, true)⟩, [4, 77]), (⟨some 79, .load 61 (.tmp 12), 61, some (77, true)⟩, [12, 77]), (⟨some 80, .move (.tmp 9), 36, some (77, true)⟩, [9, 77]), (⟨some 81, .move (.tmp 14), 3, some (77, true)⟩, [14, 77]), (⟨some 82, .binOp .sub 3 (.tmp 81) (.const (.int .i64 1)) 3, 3, some (77, true)⟩, [81, 77]), (⟨some 83, .indexAddr 36 (.tmp 80) (.tmp 82), 0, some (77, true)⟩, [80, 82, 77]), (⟨some 84, .load 61 (.tmp 83), 61, some (77, true)⟩, [83, 77]), (⟨some 85, .call ⟨.value (.func 63), #[.tmp 78, .tmp 79, .tmp 84], #[32, 61, 61]⟩, 4, some (77, true)⟩, [78, 79, 84, 77]), (⟨some 86, .pick (.tmp 77) (.tmp 85) (.const (.bool false)), 4, none⟩, [77, 85])]
abbrev r25_17 : List VOp :=
  [mv 87 14 3,
   zBD 88 87,
   asg 14 88 3]
abbrev r25_18 : List VOp :=
  [zBK 89 36,
   mv 90 9 36,
   mv 91 14 3,
   zCQ 92 36 90 91,
   zBL 93 89 92 36,
   asg 15 93 36]
abbrev r25_19 : List VOp :=
  [mv 94 15 36,
   lda 95 61 12,
   zBJ 96 36 95,
   zBL 97 94 96 36,
   asg 15 97 36]
abbrev r25_20 : List VOp :=
  [mv 98 15 36,
   mv 99 9 36,
   mv 100 14 3,
   zCP 101 36 99 100,
   zBL 102 98 101 36,
   asg 15 102 36]
abbrev r25_21 : List VOp :=
  [mv 103 15 36,
   asg 9 103 36]
abbrev r25_7 : List VOp :=
  [mv 28 10 3,
   zG 29 28,
   asg 10 29 3]
abbrev r25_22 : List VOp :=
  [fad 104 32 4 8,
   lda 105 3 104,
   zQ 106 105 0,
   mv 107 106 4,
   zCL 108 9 36 107,
   zBO 109 108 36 107,
   zCC 110 32 4 8 107,
   zCG 111 3 110 107,
   ⟨some 112, .binOp .gtr 3 (.tmp 109) (.tmp 111) 3, 4, some (107, true)⟩,
   zCN 113 107 112]
abbrev r25_23 : List VOp :=
  [mv 114 9 36,
   fad 115 32 4 8,
   lda 116 3 115,
   zCQ 117 36 114 116,
   asg 9 117 36]
abbrev r25_24 : List VOp :=
  [mv 118 9 36,
   asg 6 118 36,
   zE 7 0 37]
def B25 : VC :=
  (.seq (.region r25_0) (.seq (.region r25_1) (.seq (.seq (.region r25_2) (.cond (.tmp 22) (.seq (.region r25_3) .ret) .skip)) (.seq (.region r25_4) (.seq (.seq (.region r25_5) (.block 0 (.loop (.seq (.seq (.region r25_6) (.cond (.tmp 27) .skip (.exit 0))) (.seq (.block 1 (.seq (.draw (dR r25_8) 3) (.seq (.seq (.region r25_9) (.cond (.tmp 38) (.exit 1) .skip)) (.seq (.draw (dR r25_10) 2) (.seq (.seq (.region r25_11) (.block 2 (.loop (.seq (.seq (.region r25_12) (.cond (.tmp 54) .skip (.exit 2))) (.seq (.block 3 (.draw (dR r25_14) 4)) (.region r25_13)))))) (.seq (.region r25_15) (.seq (.block 4 (.loop (.seq (.seq (.draw (dR r25_16) 3) (.cond (.tmp 86) .skip (.exit 4))) (.block 5 (.region r25_17))))) (.seq (.region r25_18) (.seq (.region r25_19) (.seq (.region r25_20) (.region r25_21))))))))))) (.region r25_7)))))) (.seq (.seq (.region r25_22) (.cond (.tmp 113) (.region r25_23) .skip)) (.seq (.region r25_24) .ret)))))))
theorem code25 : ∃ c, Tryz.f25.body = some c ∧ abs Tryz.f25.ntmps c = B25 := ⟨_, rfl, by kernel_rfl⟩
theorem hb25 : HasBody Tryz.prog 25 := hasBody_of Tryz.func25 (by kernel_rfl)
theorem enter25 (x0 x1 x2 : Value) : Ent 25 B25 #[(.tmp 6), (.tmp 7)] [x0, x1, x2] := ent code25 hb25 Tryz.func25 rfl rfl
@[push_cast] def vr25_8 := vD r25_8.eq_1 rfl 3
@[push_cast] def vr25_10 := vD r25_10.eq_1 rfl 2
@[push_cast] def vr25_14 := vD r25_14.eq_1 rfl 4
@[push_cast] def vr25_16 := vD r25_16.eq_1 rfl 3
/-! 29 columbary/columbaryref24.Takes (params #[29, 24, 22], results #[(.tmp 6)], 88 slots) -/
@[push_cast] def W29_0 : List Nat := [10, 11, 12, 56, 57, 58, 59, 60, 61, 62, 63, 64, 65, 66, 67, 68, 69, 70, 71, 72, 73]
abbrev r29_0 : List VOp :=
  [zBF 3 29 0,
   zBF 4 24 1,
   zC 6]
abbrev r29_1 : List VOp :=
  [fad 13 29 3 0,
   lda 14 26 13]
abbrev r29_2 : List VOp :=
  [zI 16 26 14 1,
   asg 15 16 4]
abbrev r29_3 : List VOp :=
  [zI 17 26 14 2,
   asg 15 17 4]
abbrev r29_4 : List VOp :=
  [fad 19 24 4 0,
   lda 20 22 19,
   fad 21 29 3 1,
   lda 22 9 21,
   zBU 23 30 20 22 22 9 62,
   mv 18 23 62,
   ext 24 18 0 3,
   ext 25 18 1 4,
   asg 7 24 3,
   asg 8 25 4]
def r29_5 : List (VOp × List Nat) := [(⟨some 26, .move (.tmp 8), 4, none⟩, [8]), (⟨some 27, .move (.tmp 26), 4, none⟩, [26]), (⟨some 28, .move (.tmp 7), 3, some (27, true)⟩, [7, 27]), (⟨some 29, .move (.tmp 2), 22, some (27, true)⟩, [2, 27]), (⟨some 30, .call ⟨.builtin .len, #[.tmp 29], #[22]⟩, 3, some (27, true)⟩, [29, 27]), (⟨some 31, .binOp .lss 3 (.tmp 28) (.tmp 30) 3, 4, some (27, true)⟩, [28, 30, 27]), (⟨some 32, .pick (.tmp 27) (.tmp 31) (.const (.bool false)), 4, none⟩, [27, 31]), (⟨some 33, .move (.tmp 32), 4, none⟩, [32]), (⟨some 34, .move (.tmp 2), 22, some (33, true)⟩, [2, 33]), (⟨some 35, .move (.tmp 7), 3, some (33, true)⟩, [7, 33]), (⟨some 36, .indexAddr 22 (.tmp 34) (.tmp 35), 0, some (33, true)⟩, [34, 35, 33]), (⟨some 37, .load 9 (.tmp 36), 9, some (33, true)⟩, [36, 33]), (⟨some 38, .fieldAddr 29 (.tmp 3) 2, 0, some (33, true)⟩, [3, 33]), (⟨some 39, .load 9 (.tmp 38), 9, some (33, true)⟩, [38, 33]), (⟨some 40, .binOp .eql 9 (.tmp 37) (.tmp 39) 9, 4, some (33, true)⟩, [37, 39, 33]), (⟨some 41, .pick (.tmp 33) (.tmp 40) (.const (.bool false)), 4, none⟩, [33, 40]), (⟨some 6, .assign (.tmp 41), 4, none⟩, [41])]
abbrev r29_6 : List VOp :=
  [zI 43 26 14 3,
   asg 42 43 4]
def r29_7 : List (VOp × List Nat) := [(⟨some 44, .fieldAddr 29 (.tmp 3) 3, 0, none⟩, [3]), (⟨some 45, .load 27 (.tmp 44), 27, none⟩, [44]), (⟨some 46, .indexAddr 27 (.tmp 45) (.const (.int .i64 0)), 0, none⟩, [45]), (⟨some 47, .load 29 (.tmp 46), 29, none⟩, [46]), (⟨some 48, .load 24 (.tmp 4), 24, none⟩, [4]), (⟨some 49, .move (.tmp 2), 22, none⟩, [2]), (⟨some 50, .call ⟨.value (.func 29), #[.tmp 47, .tmp 48, .tmp 49], #[29, 24, 22]⟩, 4, none⟩, [47, 48, 49]), (⟨some 9, .assign (.tmp 50), 4, none⟩, [50])]
abbrev r29_8 : List VOp :=
  [mv 51 9 4,
   zCR 52 51,
   asg 6 52 4]
abbrev r29_9 : List VOp :=
  [zI 54 26 14 4,
   asg 53 54 4]
abbrev r29_10 : List VOp :=
  [zI 55 26 14 5,
   asg 53 55 4]
abbrev r29_11 : List VOp :=
  [zE 10 0 3]
abbrev r29_12 : List VOp :=
  [zE 11 0 3]
abbrev r29_13 : List VOp :=
  [mv 56 11 3,
   fad 57 29 3 3,
   lda 58 27 57,
   zBM 59 58 27,
   zX 60 3 56 59 4]
def r29_15 : List (VOp × List Nat) := [(⟨some 63, .fieldAddr 29 (.tmp 3) 3, 0, none⟩, [3]), (⟨some 64, .load 27 (.tmp 63), 27, none⟩, [63]), (⟨some 65, .move (.tmp 11), 3, none⟩, [11]), (⟨some 66, .indexAddr 27 (.tmp 64) (.tmp 65), 0, none⟩, [64, 65]), (⟨some 67, .load 29 (.tmp 66), 29, none⟩, [66]), (⟨some 68, .load 24 (.tmp 4), 24, none⟩, [4]), (⟨some 69, .move (.tmp 2), 22, none⟩, [2]), (⟨some 70, .call ⟨.value (.func 29), #[.tmp 67, .tmp 68, .tmp 69], #[29, 24, 22]⟩, 4, none⟩, [67, 68, 69]), (⟨some 12, .assign (.tmp 70), 4, none⟩, [70])]
abbrev r29_16 : List VOp :=
  [mv 71 12 4]
abbrev r29_17 : List VOp :=
  [mv 72 10 3,
   zG 73 72,
   asg 10 73 3]
abbrev r29_14 : List VOp :=
  [mv 61 11 3,
   zG 62 61,
   asg 11 62 3]
abbrev r29_18 : List VOp :=
  [mv 74 10 3,
   fad 75 29 3 3,
   lda 76 27 75,
   zBM 77 76 27,
   zM 78 3 74 77,
   mv 79 78 4,
   zCB 80 29 3 0 79,
   zCF 81 26 80 79,
   zJ 82 26 81 5 79,
   zCK 83 82 4 79,
   zCL 84 10 3 83,
   ⟨some 85, .binOp .gtr 3 (.tmp 84) (.const (.int .i64 0)) 3, 4, some (83, true)⟩,
   zCO 86 83 85 79,
   zCM 87 79 86,
   asg 6 87 4]
abbrev r29_19 : List VOp :=
  [zD 6]
def B29 : VC :=
  (.seq (.region r29_0) (.seq (.seq (.region r29_1) (.block 0 (.seq (.seq (.region r29_2) (.cond (.tmp 15) .skip (.region r29_3))) (.cond (.tmp 15) (.seq (.region r29_4) (.seq (.draw (dR r29_5) 4) .ret)) (.seq (.region r29_6) (.cond (.tmp 42) (.seq (.draw (dR r29_7) 3) (.seq (.region r29_8) .ret)) (.seq (.seq (.region r29_9) (.cond (.tmp 53) .skip (.region r29_10))) (.cond (.tmp 53) (.seq (.region r29_11) (.seq (.seq (.region r29_12) (.block 1 (.loop (.seq (.seq (.region r29_13) (.cond (.tmp 60) .skip (.exit 1))) (.seq (.block 2 (.seq (.draw (dR r29_15) 3) (.seq (.region r29_16) (.cond (.tmp 71) (.region r29_17) .skip)))) (.region r29_14)))))) (.seq (.region r29_18) .ret))) .skip)))))))) (.seq (.region r29_19) .ret)))
theorem code29 : ∃ c, Tryz.f29.body = some c ∧ abs Tryz.f29.ntmps c = B29 := ⟨_, rfl, by kernel_rfl⟩
theorem hb29 : HasBody Tryz.prog 29 := hasBody_of Tryz.func29 (by kernel_rfl)
theorem enter29 (x0 x1 x2 : Value) : Ent 29 B29 #[(.tmp 6)] [x0, x1, x2] := ent code29 hb29 Tryz.func29 rfl rfl
@[push_cast] def vr29_5 := vD r29_5.eq_1 rfl 4
@[push_cast] def vr29_7 := vD r29_7.eq_1 rfl 3
@[push_cast] def vr29_15 := vD r29_15.eq_1 rfl 3
/-! 34 slices.EqualFunc[[]columbary/api.Group,[]columbary/api.Group,columbary/api.Group,columbary/api.Group] (params #[36, 36, 70], results #[(.tmp 6)], 32 slots) -/
@[push_cast] def W34_0 : List Nat := [6, 7, 8, 9, 17, 18, 19, 20, 21, 22, 23, 24, 25, 26, 27, 28, 29, 30, 31]
abbrev r34_0 : List VOp :=
  [zC 6]
abbrev r34_1 : List VOp :=
  [mv 10 0 36,
   zBM 11 10 36,
   mv 12 1 36,
   zBM 13 12 36,
   zBB 14 3 11 13]
abbrev r34_2 : List VOp :=
  [zC 6]
abbrev r34_3 : List VOp :=
  [mv 15 0 36,
   zBM 16 15 36,
   zCJ 17]
abbrev r34_4 : List VOp :=
  [zX 18 3 17 16 0]
abbrev r34_5 : List VOp :=
  [mv 19 17 3,
   iad 20 36 15 17,
   lda 21 61 20,
   zB 8 61,
   asg 7 19 3,
   zA 61 8 21]
abbrev r34_6 : List VOp :=
  [mv 22 1 36,
   mv 23 7 3,
   iad 24 36 22 23,
   lda 25 61 24,
   zB 9 61,
   zA 61 9 25]
abbrev r34_7 : List VOp :=
  [mv 26 2 70,
   lda 27 61 8,
   lda 28 61 9,
   ⟨some 29, .call ⟨.value (.tmp 26), #[.tmp 27, .tmp 28], #[61, 61]⟩, 4, none⟩,
   zCR 30 29]
abbrev r34_8 : List VOp :=
  [zC 6]
abbrev r34_9 : List VOp :=
  [zG 31 17,
   mv 17 31 3]
abbrev r34_10 : List VOp :=
  [zD 6]
def B34 : VC :=
  (.seq (.region r34_0) (.seq (.seq (.region r34_1) (.cond (.tmp 14) (.seq (.region r34_2) .ret) .skip)) (.seq (.seq (.region r34_3) (.block 0 (.loop (.seq (.region r34_4) (.seq (.cond (.tmp 18) .skip (.exit 0)) (.seq (.block 1 (.seq (.region r34_5) (.seq (.region r34_6) (.seq (.region r34_7) (.cond (.tmp 30) (.seq (.region r34_8) .ret) .skip))))) (.region r34_9))))))) (.seq (.region r34_10) .ret))))
theorem code34 : ∃ c, Tryz.f34.body = some c ∧ abs Tryz.f34.ntmps c = B34 := ⟨_, rfl, by kernel_rfl⟩
theorem hb34 : HasBody Tryz.prog 34 := hasBody_of Tryz.func34 (by kernel_rfl)
theorem enter34 (x0 x1 x2 : Value) : Ent 34 B34 #[(.tmp 6)] [x0, x1, x2] := ent code34 hb34 Tryz.func34 rfl rfl
/-! 35 columbary/group.Same$1 (params #[61, 61], results #[(.tmp 4)], 24 slots) -/
abbrev r35_0 : List VOp :=
  [zBF 2 61 0,
   zBF 3 61 1,
   zC 4]
abbrev r35_1 : List VOp :=
  [fad 5 61 2 0,
   lda 6 3 5,
   fad 7 61 3 0,
   lda 8 3 7,
   zM 9 3 6 8,
   mv 10 9 4,
   zCC 11 61 2 1 10,
   zCG 12 22 11 10,
   zCC 13 61 3 1 10,
   zCG 14 22 13 10,
   zBV 15 36 12 14 22 22 4 10,
   zCN 16 10 15,
   mv 17 16 4,
   zCC 18 61 2 2 17,
   zCG 19 59 18 17,
   zCC 20 61 3 2 17,
   zCG 21 59 20 17,
   zBV 22 37 19 21 59 59 4 17,
   zCN 23 17 22,
   asg 4 23 4]
def B35 : VC :=
  (.seq (.region r35_0) (.seq (.region r35_1) .ret))
theorem code35 : ∃ c, Tryz.f35.body = some c ∧ abs Tryz.f35.ntmps c = B35 := ⟨_, rfl, by kernel_rfl⟩
theorem hb35 : HasBody Tryz.prog 35 := hasBody_of Tryz.func35 (by kernel_rfl)
theorem enter35 (x0 x1 : Value) : Ent 35 B35 #[(.tmp 4)] [x0, x1] := ent code35 hb35 Tryz.func35 rfl rfl
/-! 36 slices.Equal[[]string,string] (params #[22, 22], results #[(.tmp 4)], 26 slots) -/
@[push_cast] def W36_0 : List Nat := [4, 5, 13, 14, 15, 16, 17, 18, 19, 20, 21, 22, 23, 24, 25]
abbrev r36_0 : List VOp :=
  [zC 4]
abbrev r36_1 : List VOp :=
  [mv 6 0 22,
   zBM 7 6 22,
   mv 8 1 22,
   zBM 9 8 22,
   zBB 10 3 7 9]
abbrev r36_2 : List VOp :=
  [zC 4]
abbrev r36_3 : List VOp :=
  [mv 11 0 22,
   zBM 12 11 22,
   zCJ 13]
abbrev r36_4 : List VOp :=
  [zX 14 3 13 12 0]
abbrev r36_5 : List VOp :=
  [mv 15 13 3,
   asg 5 15 3]
def r36_6 : List (VOp × List Nat) := [(⟨some 16, .move (.tmp 0), 22, none⟩, [0]), (⟨some 17, .move (.tmp 5), 3, none⟩, [5]), (⟨some 18, .indexAddr 22 (.tmp 16) (.tmp 17), 0, none⟩, [16, 17]), (⟨some 19, .load 9 (.tmp 18), 9, none⟩, [18]), (⟨some 20, .move (.tmp 1), 22, none⟩, [1]), (⟨some 21, .move (.tmp 5), 3, none⟩, [5]), (⟨some 22, .indexAddr 22 (.tmp 20) (.tmp 21), 0, none⟩, [20, 21]), (⟨some 23, .load 9 (.tmp 22), 9, none⟩, [22]), (⟨some 24, .binOp .neq 9 (.tmp 19) (.tmp 23) 9, 4, none⟩, [19, 23])]
abbrev r36_7 : List VOp :=
  [zC 4]
abbrev r36_8 : List VOp :=
  [zG 25 13,
   mv 13 25 3]
abbrev r36_9 : List VOp :=
  [zD 4]
def B36 : VC :=
  (.seq (.region r36_0) (.seq (.seq (.region r36_1) (.cond (.tmp 10) (.seq (.region r36_2) .ret) .skip)) (.seq (.seq (.region r36_3) (.block 0 (.loop (.seq (.region r36_4) (.seq (.cond (.tmp 14) .skip (.exit 0)) (.seq (.block 1 (.seq (.region r36_5) (.seq (.draw (dR r36_6) 2) (.cond (.tmp 24) (.seq (.region r36_7) .ret) .skip)))) (.region r36_8))))))) (.seq (.region r36_9) .ret))))
theorem code36 : ∃ c, Tryz.f36.body = some c ∧ abs Tryz.f36.ntmps c = B36 := ⟨_, rfl, by kernel_rfl⟩
theorem hb36 : HasBody Tryz.prog 36 := hasBody_of Tryz.func36 (by kernel_rfl)
theorem enter36 (x0 x1 : Value) : Ent 36 B36 #[(.tmp 4)] [x0, x1] := ent code36 hb36 Tryz.func36 rfl rfl
@[push_cast] def vr36_6 := vD r36_6.eq_1 rfl 2
/-! 37 slices.Equal[[]int,int] (params #[59, 59], results #[(.tmp 4)], 26 slots) -/
@[push_cast] def W37_0 : List Nat := [4, 5, 13, 14, 15, 16, 17, 18, 19, 20, 21, 22, 23, 24, 25]
abbrev r37_0 : List VOp :=
  [zC 4]
abbrev r37_1 : List VOp :=
  [mv 6 0 59,
   zBM 7 6 59,
   mv 8 1 59,
   zBM 9 8 59,
   zBB 10 3 7 9]
abbrev r37_2 : List VOp :=
  [zC 4]
abbrev r37_3 : List VOp :=
  [mv 11 0 59,
   zBM 12 11 59,
   zCJ 13]
abbrev r37_4 : List VOp :=
  [zX 14 3 13 12 0]
abbrev r37_5 : List VOp :=
  [mv 15 13 3,
   asg 5 15 3]
def r37_6 : List (VOp × List Nat) := [(⟨some 16, .move (.tmp 0), 59, none⟩, [0]), (⟨some 17, .move (.tmp 5), 3, none⟩, [5]), (⟨some 18, .indexAddr 59 (.tmp 16) (.tmp 17), 0, none⟩, [16, 17]), (⟨some 19, .load 3 (.tmp 18), 3, none⟩, [18]), (⟨some 20, .move (.tmp 1), 59, none⟩, [1]), (⟨some 21, .move (.tmp 5), 3, none⟩, [5]), (⟨some 22, .indexAddr 59 (.tmp 20) (.tmp 21), 0, none⟩, [20, 21]), (⟨some 23, .load 3 (.tmp 22), 3, none⟩, [22]), (⟨some 24, .binOp .neq 3 (.tmp 19) (.tmp 23) 3, 4, none⟩, [19, 23])]
abbrev r37_7 : List VOp :=
  [zC 4]
abbrev r37_8 : List VOp :=
  [zG 25 13,
   mv 13 25 3]
abbrev r37_9 : List VOp :=
  [zD 4]
def B37 : VC :=
  (.seq (.region r37_0) (.seq (.seq (.region r37_1) (.cond (.tmp 10) (.seq (.region r37_2) .ret) .skip)) (.seq (.seq (.region r37_3) (.block 0 (.loop (.seq (.region r37_4) (.seq (.cond (.tmp 14) .skip (.exit 0)) (.seq (.block 1 (.seq (.region r37_5) (.seq (.draw (dR r37_6) 2) (.cond (.tmp 24) (.seq (.region r37_7) .ret) .skip)))) (.region r37_8))))))) (.seq (.region r37_9) .ret))))
theorem code37 : ∃ c, Tryz.f37.body = some c ∧ abs Tryz.f37.ntmps c = B37 := ⟨_, rfl, by kernel_rfl⟩
theorem hb37 : HasBody Tryz.prog 37 := hasBody_of Tryz.func37 (by kernel_rfl)
theorem enter37 (x0 x1 : Value) : Ent 37 B37 #[(.tmp 4)] [x0, x1] := ent code37 hb37 Tryz.func37 rfl rfl
@[push_cast] def vr37_6 := vD r37_6.eq_1 rfl 2
/-! 61 columbary/columbaryref25.stays (params #[24, 32, 55], results #[(.tmp 6)], 58 slots) -/
@[push_cast] def W61_0 : List Nat := [6, 7, 8, 9, 10, 11, 12, 13, 14, 15, 16, 17, 18, 19, 20, 21, 22, 23, 24, 25, 26, 27, 28, 29, 30, 31, 32, 33, 34, 35, 36, 37, 38, 39, 40, 41, 42, 43, 44, 45, 46, 47, 48, 49, 50, 51, 52, 53, 54, 55, 56, 57]
abbrev r61_0 : List VOp :=
  [zBF 3 24 0,
   zBF 4 32 1,
   zBF 5 55 2,
   zC 6]
abbrev r61_1 : List VOp :=
  [zE 7 0 3]
abbrev r61_2 : List VOp :=
  [mv 10 7 3,
   fad 11 32 4 6,
   lda 12 30 11,
   zBM 13 12 30,
   zX 14 3 10 13 4]
abbrev r61_4 : List VOp :=
  [fad 17 32 4 6,
   lda 18 30 17,
   mv 19 7 3,
   iad 20 30 18 19,
   lda 21 103 20,
   zB 8 103,
   zA 103 8 21]
abbrev r61_5 : List VOp :=
  [lda 22 24 3,
   fad 23 103 8 0,
   lda 24 58 23,
   lda 25 55 5,
   zBT 26 62 22 24 25 24 58 55 3,
   asg 9 26 3]
abbrev r61_6 : List VOp :=
  [fad 27 103 8 1,
   lda 28 3 27,
   zW 29 3 28 0 4,
   mv 30 29 4,
   zCL 31 9 3 30,
   zCC 32 103 8 2 30,
   zCG 33 3 32 30,
   ⟨some 34, .binOp .geq 3 (.tmp 31) (.tmp 33) 3, 4, some (30, true)⟩,
   zCN 35 30 34,
   mv 36 35 4,
   zCB 37 103 8 1 36,
   zCF 38 3 37 36,
   zJ 39 3 38 0 36,
   zCK 40 39 4 36,
   zCL 41 9 3 40,
   zCC 42 103 8 2 40,
   zCG 43 3 42 40,
   ⟨some 44, .binOp .neq 3 (.tmp 41) (.tmp 43) 3, 4, some (40, true)⟩,
   zCO 45 40 44 36,
   zCM 46 36 45,
   mv 47 46 4,
   zCB 48 103 8 1 47,
   zCF 49 3 48 47,
   zR 50 49 0 47,
   zCK 51 50 4 47,
   zCL 52 9 3 51,
   zCC 53 103 8 2 51,
   zCG 54 3 53 51,
   zV 55 52 54 51,
   zCO 56 51 55 47,
   zCM 57 47 56]
abbrev r61_7 : List VOp :=
  [zC 6]
abbrev r61_3 : List VOp :=
  [mv 15 7 3,
   zG 16 15,
   asg 7 16 3]
abbrev r61_8 : List VOp :=
  [zD 6]
def B61 : VC :=
  (.seq (.region r61_0) (.seq (.seq (.region r61_1) (.block 0 (.loop (.seq (.seq (.region r61_2) (.cond (.tmp 14) .skip (.exit 0))) (.seq (.block 1 (.seq (.region r61_4) (.seq (.region r61_5) (.seq (.region r61_6) (.cond (.tmp 57) (.seq (.region r61_7) .ret) .skip))))) (.region r61_3)))))) (.seq (.region r61_8) .ret)))
theorem code61 : ∃ c, Tryz.f61.body = some c ∧ abs Tryz.f61.ntmps c = B61 := ⟨_, rfl, by kernel_rfl⟩
theorem hb61 : HasBody Tryz.prog 61 := hasBody_of Tryz.func61 (by kernel_rfl)
theorem enter61 (x0 x1 x2 : Value) : Ent 61 B61 #[(.tmp 6)] [x0, x1, x2] := ent code61 hb61 Tryz.func61 rfl rfl
/-! 62 columbary/columbaryref25.term (params #[24, 58, 55], results #[(.tmp 6)], 46 slots) -/
abbrev r62_0 : List VOp :=
  [zBF 3 24 0,
   zBF 4 58 1,
   zBF 5 55 2,
   zE 6 0 3]
abbrev r62_1 : List VOp :=
  [fad 9 58 4 0,
   lda 10 56 9,
   zI 11 56 10 0]
abbrev r62_2 : List VOp :=
  [fad 12 55 5 2,
   lda 13 3 12,
   asg 6 13 3]
abbrev r62_3 : List VOp :=
  [fad 15 24 3 1,
   lda 16 22 15,
   fad 17 58 4 1,
   lda 18 9 17,
   zBU 19 30 16 18 22 9 62,
   mv 14 19 62,
   ext 20 14 0 3,
   ext 21 14 1 4,
   asg 7 20 3,
   asg 8 21 4]
abbrev r62_4 : List VOp :=
  [fad 22 58 4 0,
   lda 23 56 22]
abbrev r62_5 : List VOp :=
  [zI 25 56 23 1,
   asg 24 25 4]
abbrev r62_6 : List VOp :=
  [fad 26 55 5 3,
   lda 27 53 26,
   mv 28 7 3,
   iad 29 53 27 28,
   fad 30 52 29 0,
   lda 31 3 30,
   asg 6 31 3]
abbrev r62_7 : List VOp :=
  [zI 33 56 23 2,
   asg 32 33 4]
abbrev r62_8 : List VOp :=
  [fad 34 55 5 3,
   lda 35 53 34,
   mv 36 7 3,
   iad 37 53 35 36,
   fad 38 52 37 1,
   lda 39 3 38,
   asg 6 39 3]
abbrev r62_9 : List VOp :=
  [fad 40 55 5 3,
   lda 41 53 40,
   mv 42 7 3,
   iad 43 53 41 42,
   fad 44 52 43 2,
   lda 45 3 44,
   asg 6 45 3]
def B62 : VC :=
  (.seq (.region r62_0) (.seq (.seq (.region r62_1) (.cond (.tmp 11) (.seq (.region r62_2) .ret) .skip)) (.seq (.region r62_3) (.seq (.seq (.region r62_4) (.block 0 (.seq (.region r62_5) (.cond (.tmp 24) (.seq (.region r62_6) .ret) (.seq (.region r62_7) (.cond (.tmp 32) (.seq (.region r62_8) .ret) .skip)))))) (.seq (.region r62_9) .ret)))))
theorem code62 : ∃ c, Tryz.f62.body = some c ∧ abs Tryz.f62.ntmps c = B62 := ⟨_, rfl, by kernel_rfl⟩
theorem hb62 : HasBody Tryz.prog 62 := hasBody_of Tryz.func62 (by kernel_rfl)
theorem enter62 (x0 x1 x2 : Value) : Ent 62 B62 #[(.tmp 6)] [x0, x1, x2] := ent code62 hb62 Tryz.func62 rfl rfl
/-! 63 columbary/columbaryref25.ahead (params #[32, 61, 61], results #[(.tmp 6)], 43 slots) -/
abbrev r63_0 : List VOp :=
  [zBF 3 32 0,
   zBF 4 61 1,
   zBF 5 61 2,
   zC 6]
abbrev r63_1 : List VOp :=
  [fad 8 32 3 7,
   lda 9 3 8,
   zI 10 3 9 0]
abbrev r63_2 : List VOp :=
  [zC 6]
abbrev r63_3 : List VOp :=
  [fad 11 32 3 7,
   lda 12 3 11,
   fad 13 32 3 7,
   lda 14 3 13,
   ⟨some 15, .unOp .neg 3 (.tmp 14), 3, none⟩,
   zBP 16 12 15,
   zBD 17 16,
   asg 7 17 3]
abbrev r63_4 : List VOp :=
  [fad 18 32 3 7,
   lda 19 3 18,
   zQ 20 19 0]
def r63_5 : List (VOp × List Nat) := [(⟨some 21, .fieldAddr 61 (.tmp 4) 2, 0, none⟩, [4]), (⟨some 22, .load 59 (.tmp 21), 59, none⟩, [21]), (⟨some 23, .move (.tmp 7), 3, none⟩, [7]), (⟨some 24, .indexAddr 59 (.tmp 22) (.tmp 23), 0, none⟩, [22, 23]), (⟨some 25, .load 3 (.tmp 24), 3, none⟩, [24]), (⟨some 26, .fieldAddr 61 (.tmp 5) 2, 0, none⟩, [5]), (⟨some 27, .load 59 (.tmp 26), 59, none⟩, [26]), (⟨some 28, .move (.tmp 7), 3, none⟩, [7]), (⟨some 29, .indexAddr 59 (.tmp 27) (.tmp 28), 0, none⟩, [27, 28]), (⟨some 30, .load 3 (.tmp 29), 3, none⟩, [29]), (⟨some 31, .binOp .lss 3 (.tmp 25) (.tmp 30) 3, 4, none⟩, [25, 30]), (⟨some 6, .assign (.tmp 31), 4, none⟩, [31])]
def r63_6 : List (VOp × List Nat) := [(⟨some 32, .fieldAddr 61 (.tmp 4) 2, 0, none⟩, [4]), (⟨some 33, .load 59 (.tmp 32), 59, none⟩, [32]), (⟨some 34, .move (.tmp 7), 3, none⟩, [7]), (⟨some 35, .indexAddr 59 (.tmp 33) (.tmp 34), 0, none⟩, [33, 34]), (⟨some 36, .load 3 (.tmp 35), 3, none⟩, [35]), (⟨some 37, .fieldAddr 61 (.tmp 5) 2, 0, none⟩, [5]), (⟨some 38, .load 59 (.tmp 37), 59, none⟩, [37]), (⟨some 39, .move (.tmp 7), 3, none⟩, [7]), (⟨some 40, .indexAddr 59 (.tmp 38) (.tmp 39), 0, none⟩, [38, 39]), (⟨some 41, .load 3 (.tmp 40), 3, none⟩, [40]), (⟨some 42, .binOp .gtr 3 (.tmp 36) (.tmp 41) 3, 4, none⟩, [36, 41]), (⟨some 6, .assign (.tmp 42), 4, none⟩, [42])]
def B63 : VC :=
  (.seq (.region r63_0) (.seq (.seq (.region r63_1) (.cond (.tmp 10) (.seq (.region r63_2) .ret) .skip)) (.seq (.region r63_3) (.seq (.seq (.region r63_4) (.cond (.tmp 20) (.seq (.draw (dR r63_5) 3) .ret) .skip)) (.seq (.draw (dR r63_6) 3) .ret)))))
theorem code63 : ∃ c, Tryz.f63.body = some c ∧ abs Tryz.f63.ntmps c = B63 := ⟨_, rfl, by kernel_rfl⟩
theorem hb63 : HasBody Tryz.prog 63 := hasBody_of Tryz.func63 (by kernel_rfl)
theorem enter63 (x0 x1 x2 : Value) : Ent 63 B63 #[(.tmp 6)] [x0, x1, x2] := ent code63 hb63 Tryz.func63 rfl rfl
@[push_cast] def vr63_5 := vD r63_5.eq_1 rfl 3
@[push_cast] def vr63_6 := vD r63_6.eq_1 rfl 3
@[push_cast] theorem bsl22_1_CodesE {K : Value → World → Prop} {w : World} (x0 : ByteArray) : vBuildSlice Tryz.prog 22 1 #[(0, (.string x0))] K w = K (.slice (some ⟨w.heap.size, 0, none⟩) 1 1) (w.alloc (.cells #[(.string x0)] 9)) :=
  vBuildSlice_ok Tryz.underlying22 ti9 (by kernel_rfl) (by decide)
@[push_cast] theorem bsl33_1_CodesE {K : Value → World → Prop} {w : World} (x00 x01 x02 x03 : Value) : vBuildSlice Tryz.prog 33 1 #[(0, (.agg #[x00, x01, x02, x03]))] K w = K (.slice (some ⟨w.heap.size, 0, none⟩) 1 1) (w.alloc (.cells #[x00, x01, x02, x03] 55)) :=
  vBuildSlice_ok Tryz.underlying33 ti55 (by kernel_rfl) (by decide)
@[push_cast] theorem bsl36_0_CodesE {K : Value → World → Prop} {w : World}  : vBuildSlice Tryz.prog 36 0 #[] K w = K (.slice (some ⟨w.heap.size, 0, none⟩) 0 0) (w.alloc (.cells #[] 61)) :=
  vBuildSlice_ok Tryz.underlying36 ti61 (by kernel_rfl) (by decide)
@[push_cast] theorem bsl36_1_CodesE {K : Value → World → Prop} {w : World} (x00 x01 x02 : Value) : vBuildSlice Tryz.prog 36 1 #[(0, (.agg #[x00, x01, x02]))] K w = K (.slice (some ⟨w.heap.size, 0, none⟩) 1 1) (w.alloc (.cells #[x00, x01, x02] 61)) :=
  vBuildSlice_ok Tryz.underlying36 ti61 (by kernel_rfl) (by decide)
@[push_cast] theorem bsl59_1_CodesE {K : Value → World → Prop} {w : World} (x0 : Int) : vBuildSlice Tryz.prog 59 1 #[(0, (.int .i64 x0))] K w = K (.slice (some ⟨w.heap.size, 0, none⟩) 1 1) (w.alloc (.cells #[(.int .i64 x0)] 3)) :=
  vBuildSlice_ok Tryz.underlying59 ti3 (by kernel_rfl) (by decide)
@[push_cast] theorem bld55_0_2_3_CodesE {K : Value → World → Prop} {w : World} (x0 : Int) (x2 : Int) (x3o : Option Addr) (x3n x3c : Nat) : vBuild Tryz.prog 55 #[(0, (.int .i64 x0)), (2, (.int .i64 x2)), (3, (.slice x3o x3n x3c))] K w = K (.agg #[(.int .i64 x0), (.slice none 0 0), (.int .i64 x2), (.slice x3o x3n x3c)]) w :=
  vBuild_ok (by kernel_rfl)
@[push_cast] theorem bld61_0_1_CodesE {K : Value → World → Prop} {w : World} (x0 : Int) (x1o : Option Addr) (x1n x1c : Nat) : vBuild Tryz.prog 61 #[(0, (.int .i64 x0)), (1, (.slice x1o x1n x1c))] K w = K (.agg #[(.int .i64 x0), (.slice x1o x1n x1c), (.slice none 0 0)]) w :=
  vBuild_ok (by kernel_rfl)
end Go.Proofs.YtnofalhkapmcnaaGreat
end
section
set_option linter.unusedSimpArgs false
namespace Go.Proofs.YtnofalhkapmcnaaGreat
open Go.Vc Go.Key Go.Cub
set_option maxRecDepth 100000
def tkN (d row : List ByteArray) (l : List FT) : Nat := l.countP (FT.takes d row)
theorem tkN_le (d row : List ByteArray) (l : List FT) : tkN d row l ≤ l.length := List.countP_le_length
theorem tkN_all (d row : List ByteArray) (l : List FT) : decide (tkN d row l = l.length) = l.all (FT.takes d row) := by
  unfold tkN
  cases h : l.all (FT.takes d row) with
  | true => exact decide_eq_true (List.countP_eq_length.2 (List.all_eq_true.1 h))
  | false =>
    refine decide_eq_false fun he => ?_
    rw [List.all_eq_true.2 (List.countP_eq_length.1 he)] at h
    cases h
theorem tkN_any (d row : List ByteArray) (l : List FT) : decide (0 < tkN d row l) = l.any (FT.takes d row) := by
  unfold tkN
  cases h : l.any (FT.takes d row) with
  | true => exact decide_eq_true (List.countP_pos_iff.2 (List.any_eq_true.1 h))
  | false =>
    refine decide_eq_false fun he => ?_
    rw [List.any_eq_true.2 (List.countP_pos_iff.1 he)] at h
    cases h
theorem tkN_snoc (d row : List ByteArray) (l : List FT) (k : FT) : tkN d row (l ++ [k]) = tkN d row l + (if k.takes d row = true then 1 else 0) := by
  unfold tkN
  rw [List.countP_append, List.countP_singleton]
def TkOk (f : FT) : Prop := f.op = 0 ∨ ∃ n, f.form n = true
theorem TkOk.kid {f k : FT} (h : TkOk f) (h0 : f.op ≠ 0) (hk : k ∈ f.kids) : TkOk k := by
  obtain ⟨n, hn⟩ := h.resolve_left h0
  rw [FT.form_is] at hn
  simp only [Bool.and_eq_true, List.all_eq_true] at hn
  exact .inr ⟨n - 1, hn.1.2 k hk⟩
theorem TkOk.own {f : FT} (h : TkOk f) (h0 : f.op ≠ 0) : FT.own f.op f.dim f.value f.kids.length := by
  obtain ⟨n, hn⟩ := h.resolve_left h0
  rw [FT.form_is] at hn
  simp only [Bool.and_eq_true, decide_eq_true_eq] at hn
  exact hn.2
set_option maxHeartbeats 2000000 in
theorem dtakes_c (dv mv : Value) (d m : List ByteArray) (rv : Value) (row : List ByteArray) : ∀ (f : FT) (w : World), f.Ok w → TkOk f → ScIs w dv mv d m → StS w rv row → FnC Tryz.prog 29 #[.agg (ftC f).toArray, scV dv mv, rv] w fun r w' => r = .bool (f.takes d row) ∧ Later w w' := by
  intro f
  induction f using FT.ind with
  | h f ih =>
  intro w hf hk hS hR
  obtain ⟨h1, h2, h3, h4, h5⟩ := FT.ok_iff.1 hf
  obtain ⟨o, c, hkv, hc1, hc2⟩ := RecS.slice h4
  obtain ⟨orr, cr, rfl, gr1, gr2, hRm, _⟩ := Sl.openM hR
  have esc : scV dv mv = .agg #[dv, mv] := rfl
  rw [esc]
  refine enter29 _ _ _ ?_
  unfold B29
  have eca : (Value.agg (ftC f).toArray).cells = (ftC f).toArray := rfl
  have ecb : (Value.agg #[dv, mv]).cells = #[dv, mv] := rfl
  obtain ⟨l1, s1, B1⟩ := ftBox w f
  rw [FT.takes_is]
  repeat' (first | (simp (disch := omega) only [push_cast, seval, eca, s1]) | refine iX ?_ ?_ <;> intros | refine aI (by omega) ?_ | fail)
  generalize w.alloc (.cells (ftC f).toArray 29) = w1 at *
  obtain ⟨l2, s2, F2⟩ := box2 w1 dv mv 24
  rw [s1] at s2 F2
  repeat' (first | (simp (disch := omega) only [push_cast, seval, ecb, s1, s2]) | refine iX ?_ ?_ <;> intros | refine aI (by omega) ?_ | fail)
  generalize w1.alloc (.cells #[dv, mv] 24) = w2 at *
  have l02 := l1.trans l2
  generalize hkf : w.heap.size = kf at *
  have FF := fun w' (hl : Later w2 w') => ftAt (ftLater B1 (l2.trans hl))
  have FS := fun w' (hl : Later w2 w') => F2 w' hl
  rw [hkv] at FF
  clear F2 B1 eca ecb s1 s2
  obtain ⟨a0, a1, a2, a3⟩ := FF w2 (Later.refl _)
  obtain ⟨b0, _, _⟩ := FS w2 (Later.refl _)
  have hS2 := hS.later l02
  rw [hkv] at h4
  by_cases k12 : f.op = 1 ∨ f.op = 2
  · rw [if_pos k12]
    rcases k12 with k | k
    rotate_left
    have n1 : ¬ f.op = 1 := by omega
    have e1 : decide (f.op = 1) = false := decide_eq_false n1
    have e2 : decide (f.op = 2) = true := decide_eq_true k
    repeat' (first | (simp (disch := omega) only [push_cast, seval, a0, a1, b0, e1, e2, addr_add_eq, Nat.zero_add]) | refine iX ?_ ?_ <;> intros | refine aI (by omega) ?_ | refine dq ?_)
    rotate_left
    have e1 : decide (f.op = 1) = true := decide_eq_true k
    repeat' (first | (simp (disch := omega) only [push_cast, seval, a0, a1, b0, e1, addr_add_eq, Nat.zero_add]) | refine iX ?_ ?_ <;> intros | refine aI (by omega) ?_ | refine dq ?_)
    all_goals
      refine (dfind_c dv d f.dim w2 hS2.dS).mono ?_
      rintro _ w0 ⟨rfl, h0⟩
      obtain rfl := h0.symm
      rw [fnd_fi]
      unfold fiT
      cases hfi : fi d f.dim with
      | none =>
        have er : FT.is1 row f.value none = false := rfl
        rw [er]
        repeat' (first | (simp (disch := omega) only [push_cast, seval]) | refine iX ?_ ?_ <;> intros | refine aI (by omega) ?_ | refine dq ?_)
        intro w6 l6
        repeat' (first | (simp (disch := omega) only [push_cast, seval]) | refine iX ?_ ?_ <;> intros | refine aI (by omega) ?_ | refine dq ?_)
        first | exact ⟨rfl, (l02.trans l6)⟩ | exact (l02.trans l6)
      | some i =>
        by_cases hil : i < row.length
        · obtain ⟨ar, rfl⟩ := hRm.some hil
          have hc := StS.atS (hRm.later l02) hil
          have dl : decide ((i : Int) < (row.length : Int)) = true := decide_eq_true (by omega)
          have ei : row[i]! = row[i] := getElem!_pos row i hil
          have er : FT.is1 row f.value (some i) = decide (row[i] = f.value) := by show (decide (i < row.length) && decide (row[i]! = f.value)) = _; rw [decide_eq_true hil, ei, Bool.true_and]
          rw [er]
          repeat' (first | (simp (disch := omega) only [push_cast, seval, Option.getD_some, a2, hc, dl, addr_add_eq, Nat.zero_add]) | refine iX ?_ ?_ <;> intros | refine aI (by omega) ?_ | refine dq ?_)
          intro w6 l6
          repeat' (first | (simp (disch := omega) only [push_cast, seval]) | refine iX ?_ ?_ <;> intros | refine aI (by omega) ?_ | refine dq ?_)
          first | exact ⟨rfl, (l02.trans l6)⟩ | exact (l02.trans l6)
        · have dl : decide ((i : Int) < (row.length : Int)) = false := decide_eq_false (by omega)
          have er : FT.is1 row f.value (some i) = false := by show (decide (i < row.length) && decide (row[i]! = f.value)) = _; rw [decide_eq_false hil, Bool.false_and]
          rw [er]
          repeat' (first | (simp (disch := omega) only [push_cast, seval, Option.getD_some, a2, dl, addr_add_eq, Nat.zero_add]) | refine iX ?_ ?_ <;> intros | refine aI (by omega) ?_ | refine dq ?_)
          intro w6 l6
          repeat' (first | (simp (disch := omega) only [push_cast, seval]) | refine iX ?_ ?_ <;> intros | refine aI (by omega) ?_ | refine dq ?_)
          first | exact ⟨rfl, (l02.trans l6)⟩ | exact (l02.trans l6)
  have e1 : decide (f.op = 1) = false := decide_eq_false (by omega)
  have e2 : decide (f.op = 2) = false := decide_eq_false (by omega)
  rw [if_neg k12]
  by_cases k3 : f.op = 3
  · have e3 : decide (f.op = 3) = true := decide_eq_true k3
    rw [if_pos k3]
    have hkl : f.kids.length = 1 := by
      have := hk.own (by omega)
      unfold FT.own at this
      omega
    obtain ⟨aa, rfl, fk⟩ := RecS.at ftC_len (h4.later l02) (i := 0) (by omega)
    rw [Nat.zero_mul, addr_add_zero] at fk
    have hm := List.getElem_mem (l := f.kids) (n := 0) (by omega)
    have ea : f.kids.any (FT.takes d row) = (f.kids[0]).takes d row := by
      obtain ⟨k, hk1⟩ := List.length_eq_one_iff.1 hkl
      simp [hk1]
    rw [ea]
    have ihk := ih _ hm
    have hok := h5 _ hm
    have htk := hk.kid (by omega) hm
    generalize f.kids[0] = k at *
    have b1 := (FS w2 (Later.refl _)).2.2
    repeat' (first | (simp (disch := omega) only [push_cast, seval, a0, a3, b1, fk, hkl, e1, e2, e3, addr_add_zero, addr_add_eq, Nat.zero_add]) | refine iX ?_ ?_ <;> intros | refine aI (by omega) ?_ | refine dq ?_)
    refine QFn.of hb29 (v := .bool (k.takes d row)) (fun w' hl => ihk w' (hok.later (l02.trans hl)) htk (hS.later (l02.trans hl)) (hR.later (l02.trans hl))) ?_
    repeat' (first | (simp (disch := omega) only [push_cast, seval]) | refine iX ?_ ?_ <;> intros | refine aI (by omega) ?_ | refine dq ?_)
    intro w6 l6
    repeat' (first | (simp (disch := omega) only [push_cast, seval]) | refine iX ?_ ?_ <;> intros | refine aI (by omega) ?_ | refine dq ?_)
    first | exact ⟨rfl, (l02.trans l6)⟩ | exact (l02.trans l6)
  have e3 : decide (f.op = 3) = false := decide_eq_false k3
  rw [if_neg k3]
  by_cases k45 : f.op = 4 ∨ f.op = 5
  · have hkl : 2 ≤ f.kids.length := by
      have := hk.own (by omega)
      unfold FT.own at this
      omega
    have hval : (if f.op = 4 then f.kids.all (FT.takes d row) else if f.op = 5 then f.kids.any (FT.takes d row) else true) = (decide (tkN d row f.kids = f.kids.length) || (decide (f.op = 5) && decide (0 < tkN d row f.kids))) := by
      rw [tkN_any]
      rcases k45 with k | k
      · rw [if_pos k, tkN_all, decide_eq_false (show ¬ f.op = 5 by omega)]; simp
      · rw [if_neg (by omega), if_pos k, decide_eq_true k, Bool.true_and, ← tkN_any]
        by_cases hn : tkN d row f.kids = f.kids.length
        · rw [decide_eq_true hn, decide_eq_true (show 0 < tkN d row f.kids by omega)]; rfl
        · rw [decide_eq_false hn, Bool.false_or]
    rw [hval]
    have hn0 : f.op ≠ 0 := by omega
    have hgo : ∀ w3, Later w2 w3 → True := fun _ _ => trivial
    rcases k45 with k | k
    rotate_left
    have n4 : ¬ f.op = 4 := by omega
    have e4 : decide (f.op = 4) = false := decide_eq_false n4
    have e5 : decide (f.op = 5) = true := decide_eq_true k
    rw [e5]
    repeat' (first | (simp (disch := omega) only [push_cast, seval, a0, e1, e2, e3, e4, e5, addr_add_eq, Nat.zero_add]) | refine iX ?_ ?_ <;> intros | refine aI (by omega) ?_ | refine dq ?_)
    rotate_left
    have n5 : ¬ f.op = 5 := by omega
    have e4 : decide (f.op = 4) = true := decide_eq_true k
    have e5 : decide (f.op = 5) = false := decide_eq_false n5
    rw [e5]
    repeat' (first | (simp (disch := omega) only [push_cast, seval, a0, e1, e2, e3, e4, addr_add_eq, Nat.zero_add]) | refine iX ?_ ?_ <;> intros | refine aI (by omega) ?_ | refine dq ?_)
    all_goals
      refine vc_loop W29_0 (fun i : Nat => [(6, .bool false), (10, .int .i64 ((tkN d row (f.kids.take i) : Nat) : Int)), (11, .int .i64 (i : Int))]) (fun i w' => i ≤ f.kids.length ∧ Later w2 w') (fun i => f.kids.length - i) 0 (by decide) ?_ ?_ ?_
      · simp (disch := omega) only [push_cast, seval]
        try rfl
      · exact ⟨Nat.zero_le _, Later.refl _⟩
      rintro i uu w3 ⟨hi, l3⟩
      obtain ⟨c0, _, _, c3⟩ := FF w3 l3
      have hle := tkN_le d row (f.kids.take i)
      rw [List.length_take] at hle
      by_cases hil : i < f.kids.length
      · have hd : decide ((i : Int) < (f.kids.length : Int)) = true := decide_eq_true (by omega)
        obtain ⟨aa, rfl, fk⟩ := RecS.at ftC_len (h4.later (l02.trans l3)) hil
        have hm := List.getElem_mem hil
        have hsn := tkN_snoc d row (f.kids.take i) f.kids[i]
        rw [← take_snoc f.kids i hil] at hsn
        have ihk := ih _ hm
        have hok := h5 _ hm
        have htk := hk.kid hn0 hm
        generalize f.kids[i] = kd at *
        have b1 := (FS w3 l3).2.2
        generalize tkN d row (f.kids.take i) = n at *
        repeat' (first | (simp (disch := omega) only [push_cast, seval, c3, b1, fk, hd, addr_add_eq, Nat.zero_add]) | refine iX ?_ ?_ <;> intros | refine aI (by omega) ?_ | refine dq ?_)
        refine QFn.of hb29 (v := .bool (kd.takes d row)) (fun w' hl => ihk w' (hok.later (l02.trans (l3.trans hl))) htk (hS.later (l02.trans (l3.trans hl))) (hR.later (l02.trans (l3.trans hl)))) ?_
        repeat' (first | (simp (disch := omega) only [push_cast, seval]) | refine iX ?_ ?_ <;> intros | refine aI (by omega) ?_ | refine dq ?_)
        intro w6 l6
        cases hkt : kd.takes d row with
        | true =>
          rw [hkt, if_pos rfl] at hsn
          repeat' (first | (simp (disch := omega) only [push_cast, seval]) | refine iX ?_ ?_ <;> intros | refine aI (by omega) ?_ | refine dq ?_)
          exact ⟨rfl, i + 1, by simp (disch := omega) only [push_cast, seval, hsn], ⟨by omega, l3.trans l6⟩, by dsimp only; omega⟩
        | false =>
          rw [hkt, if_neg (by simp)] at hsn
          repeat' (first | (simp (disch := omega) only [push_cast, seval]) | refine iX ?_ ?_ <;> intros | refine aI (by omega) ?_ | refine dq ?_)
          exact ⟨rfl, i + 1, by simp (disch := omega) only [push_cast, seval, hsn], ⟨by omega, l3.trans l6⟩, by dsimp only; omega⟩
      · have hd : decide ((i : Int) < (f.kids.length : Int)) = false := decide_eq_false (by omega)
        have hif : i = f.kids.length := by omega
        subst hif
        rw [List.take_length] at hle ⊢
        generalize tkN d row f.kids = n at *
        have dn : decide ((n : Int) = (f.kids.length : Int)) = decide (n = f.kids.length) := by
          by_cases hh : n = f.kids.length
          · rw [decide_eq_true hh, decide_eq_true (by omega)]
          · rw [decide_eq_false hh, decide_eq_false (by omega)]
        have dp : decide (0 < (n : Int)) = decide (0 < n) := by
          by_cases hh : 0 < n
          · rw [decide_eq_true hh, decide_eq_true (by omega)]
          · rw [decide_eq_false hh, decide_eq_false (by omega)]
        cases hq : decide (n = f.kids.length) with
        | true =>
          repeat' (first | (simp (disch := omega) only [push_cast, seval, c0, c3, hd, dn, hq, e4, e5, addr_add_eq, Nat.zero_add]) | refine iX ?_ ?_ <;> intros | refine aI (by omega) ?_ | refine dq ?_)
          first | exact ⟨(by simp), (l02.trans l3)⟩ | exact (l02.trans l3)
        | false =>
          repeat' (first | (simp (disch := omega) only [push_cast, seval, c0, c3, hd, dn, dp, hq, e4, e5, addr_add_eq, Nat.zero_add]) | refine iX ?_ ?_ <;> intros | refine aI (by omega) ?_ | refine dq ?_)
          first | exact ⟨(by simp), (l02.trans l3)⟩ | exact (l02.trans l3)
  have e4 : decide (f.op = 4) = false := decide_eq_false (by omega)
  have e5 : decide (f.op = 5) = false := decide_eq_false (by omega)
  rw [if_neg (by omega), if_neg (by omega)]
  repeat' (first | (simp (disch := omega) only [push_cast, seval, a0, e1, e2, e3, e4, e5, addr_add_eq, Nat.zero_add]) | refine iX ?_ ?_ <;> intros | refine aI (by omega) ?_ | refine dq ?_)
  first | exact ⟨rfl, l02⟩ | exact l02
end Go.Proofs.YtnofalhkapmcnaaGreat
end
section
set_option linter.unusedSimpArgs false
namespace Go.Proofs.YtnofalhkapmcnaaGreat
open Go.Vc Go.Key Go.Bkt
set_option maxRecDepth 100000
theorem dbucket_c (q : QD) (t : Int) (w : World) (hq : q.Ok w) (ht : 0 ≤ t ∧ t ≤ 1099511627776) (he : q.ev = 0 ∨ Rt q.ev) : FnC Tryz.prog 22 #[.agg (qdC q).toArray, .int .i64 t] w fun v w' => v = .int .i64 (bktN q t) ∧ Later w w' := by
  refine enter22 _ _ ?_
  unfold B22
  have eca : (Value.agg (qdC q).toArray).cells = (qdC q).toArray := rfl
  have l1 := later_alloc w (.cells (qdC q).toArray 32)
  have B1 := Blk.new w (qdC q).toArray 32
  repeat' (first | (simp (disch := omega) only [push_cast, seval, eca]) | refine iX ?_ ?_ <;> intros | refine aI (by omega) ?_ | refine dq ?_)
  generalize w.alloc (.cells (qdC q).toArray 32) = w1 at *
  generalize w.heap.size = kf at *
  obtain ⟨_, a1, _, a3, _⟩ := qdAt B1
  unfold bktN
  by_cases hz : q.ev = 0
  · have dz : decide (q.ev = 0) = true := decide_eq_true hz
    rw [if_pos hz]
    repeat' (first | (simp (disch := omega) only [push_cast, seval, a1, a3, dz, addr_add_eq, Nat.zero_add]) | refine iX ?_ ?_ <;> intros | refine aI (by omega) ?_ | refine dq ?_)
    first | exact ⟨rfl, l1⟩ | exact l1
  · have dz : decide (q.ev = 0) = false := decide_eq_false hz
    have hR : Rt q.ev := he.resolve_left hz
    rw [if_neg hz]
    have hF : Ft t := by unfold Ft; omega
    have e1 : (flrR t q.ev).1 = flr t q.ev := by unfold flrR; rw [if_pos ⟨hR, hF⟩]
    rw [e1]
    obtain ⟨m1, m2, m3, m4⟩ := tm t q.ev (by unfold Rt at hR; omega)
    have hem := em t q.ev (by unfold Rt at hR; omega)
    have hq0 : 0 ≤ t.tdiv q.ev := Int.tdiv_nonneg (by omega) (by unfold Rt at hR; omega)
    have hqt : t.tdiv q.ev ≤ t := by rw [Int.tdiv_eq_ediv_of_nonneg ht.1]; exact Int.ediv_le_self _ ht.1
    have hx : t.tdiv q.ev * q.ev = flr t q.ev := by
      unfold flr
      rw [m4, m3]
      have : 0 ≤ t.tmod q.ev := Int.tmod_nonneg _ ht.1
      rw [if_neg (by omega)]
    have hfl : 0 ≤ flr t q.ev ∧ flr t q.ev ≤ t := by
      have := flr_le (t := t) (g := q.ev) (by unfold Rt at hR; omega)
      refine ⟨?_, this.1⟩
      rw [← hx]; exact Int.mul_nonneg hq0 (by unfold Rt at hR; omega)
    have w1' : IntKind.i64.wrap (t.tdiv q.ev) = t.tdiv q.ev := by generalize t.tdiv q.ev = x at *; simp (disch := omega) only [push_cast, seval]
    have w2' : IntKind.i64.wrap (flr t q.ev) = flr t q.ev := by generalize flr t q.ev = x at *; simp (disch := omega) only [push_cast, seval]
    have hne : ¬ q.ev = 0 := hz
    have e9 : t.tdiv q.ev = t / q.ev := Int.tdiv_eq_ediv_of_nonneg ht.1
    rw [e9] at hx w1'
    repeat' (first | (simp (disch := omega) only [push_cast, seval, a1, a3, dz, hne, w1', hx, w2', addr_add_eq, Nat.zero_add]) | refine iX ?_ ?_ <;> intros | refine aI (by omega) ?_ | refine dq ?_)
    intro w2 l2
    first | exact l1.trans l2 | exact ⟨rfl, l1.trans l2⟩
end Go.Proofs.YtnofalhkapmcnaaGreat
end
section
set_option linter.unusedSimpArgs false
namespace Go.Proofs.YtnofalhkapmcnaaGreat
open Go.Vc Go.Key Go.Cub Go.Fold Go.Stab Go.Bkt
set_option maxRecDepth 100000
theorem cells2 {w : World} {k : Nat} {a b : Value} (h : cellsAt w ⟨k, 0, none⟩ 2 = some [a, b]) : w.cell? ⟨k, 0, none⟩ = some a ∧ w.cell? ⟨k, 1, none⟩ = some b := by
  unfold cellsAt at h
  split at h
  · rename_i v hv
    unfold cellsAt at h
    split at h
    · rename_i l hl
      split at hl
      · rename_i u hu
        unfold cellsAt at hl
        cases hl
        cases h
        exact ⟨hv, by rwa [addr_add_eq] at hu⟩
      · cases hl
    · cases h
  · cases h
set_option maxHeartbeats 4000000 in
theorem dgfold_c (A : Nat) (dv mv v : Value) (d m : List ByteArray) (q : QD) (l : List El) (w : World) (h : ScIs w dv mv d m) (hq : q.Ok w) (hl : RecS elC 4 w v l) (hes : ∀ e ∈ l, EIs w e ∧ Cr d.length A e) (hbd : ∀ n ∈ q.bl, n ∈ d) (hdl : q.bl.length ≤ 1000) (hk : TkOk q.wh) (hev : q.ev = 0 ∨ Rt q.ev) (h63 : l.length ≤ 100000) :
    FnC Tryz.prog 10 #[scV dv mv, .agg (qdC q).toArray, v] w fun r w' => ∃ vv e, r = .tuple #[vv, .int .i64 e] ∧ FoldD q.bl.length A w' vv e (grpL d q (l.map El.abs)) ∧ Later w w' := by
  have esc : scV dv mv = .agg #[dv, mv] := rfl
  rw [esc]
  obtain ⟨lo, lc, rfl, gl1, gl2⟩ := hl.slice
  obtain ⟨ou, cu, hbv, hu, gu1, gu2, gu3⟩ := StS.opn hq.bv
  refine enter10 _ _ _ ?_
  unfold B10
  have eca : (Value.agg (qdC q).toArray).cells = (qdC q).toArray := rfl
  have ecb : (Value.agg #[dv, mv]).cells = #[dv, mv] := rfl
  obtain ⟨l1, s1, F⟩ := box2 w dv mv 24
  have B2 := Blk.new (w.alloc (.cells #[dv, mv] 24)) (qdC q).toArray 32
  have l2 := later_alloc (w.alloc (.cells #[dv, mv] 24)) (.cells (qdC q).toArray 32)
  rw [s1] at B2
  repeat' (first | (simp (disch := omega) only [push_cast, seval, eca, ecb, s1]) | refine iX ?_ ?_ <;> intros | refine aI (by omega) ?_ | fail)
  have l01 := l1.trans l2
  have FS : ∀ w', Later ((w.alloc (.cells #[dv, mv] 24)).alloc (.cells (qdC q).toArray 32)) w' → cellsAt w' ⟨w.heap.size, 0, none⟩ 2 = some [dv, mv] := fun w' hl => (F w' (l2.trans hl)).2.2
  clear F l1 l2 s1
  generalize (w.alloc (.cells #[dv, mv] 24)).alloc (.cells (qdC q).toArray 32) = w1 at *
  have hkf := l01.size
  generalize hkq : w.heap.size = kf at *
  have h1 := h.later l01
  have q1 := hq.later l01
  have QB := fun w' (hl : Later w1 w') => qdLater B2 hl
  have hin : ∀ n ∈ q.bl, ∃ k, fi d n = some k ∧ k < d.length := fun n hn => by
    cases hf : fi d n with
    | none => exact absurd rfl (fi_none.1 hf n (hbd n hn))
    | some k => exact ⟨k, rfl, (fi_some hf).1⟩
  repeat' (first | (simp (disch := omega) only [push_cast, seval]) | refine iX ?_ ?_ <;> intros | refine aI (by omega) ?_ | refine dq ?_)
  refine vc_loop W10_0 (fun p : Nat × Value => [(8, p.2), (9, .int .i64 (p.1 : Int))])
    (fun p w' => p.1 ≤ l.length ∧ Later w1 w' ∧ ∃ os, OwnE w' w1.heap.size p.2 os ∧ os.map El.abs = grpL d q ((l.take p.1).map El.abs) ∧ ∀ z ∈ os, ∃ x ∈ l, Pz w' x (rowG d q x.abs) z) (fun p => l.length - p.1) (0, .slice none 0 0) (by decide) ?_ ?_ ?_
  · simp (disch := omega) only [push_cast, seval]
  · exact ⟨by omega, Later.refl _, [], OwnR.nil _ _ _, by simp [grpL], by simp⟩
  rintro ⟨i, ov⟩ uu2 w4 ⟨hi, l4, os, hO, hos, hZ⟩
  dsimp only at hi hO hos
  have hosl : os.length ≤ l.length := by
    have h1 := congrArg List.length hos
    have h2 := grpL_len d q ((l.take i).map El.abs)
    rw [List.length_map] at h1
    rw [List.length_map, List.length_take] at h2
    omega
  have l04 := l01.trans l4
  by_cases hlt : i < l.length
  · obtain ⟨ad, rfl, _⟩ := RecS.at elC_len (hl.later l04) hlt
    have x0 := RecS.cell elC_len hl hlt (j := 0) (x := .int .i64 (l[i]).t) rfl
    have x1 := RecS.cell elC_len hl hlt (j := 1) (x := (l[i]).dv) rfl
    have x2 := RecS.cell elC_len hl hlt (j := 2) (x := .int .i64 (l[i]).n) rfl
    have x3 := RecS.cell elC_len hl hlt (j := 3) (x := (l[i]).av) rfl
    rw [addr_add_zero] at x0
    have hE := (hes l[i] (List.getElem_mem _)).1
    have hC := (hes l[i] (List.getElem_mem _)).2
    have hxm : l[i] ∈ l := List.getElem_mem _
    have htk : grpL d q ((l.take (i + 1)).map El.abs) = grpL d q ((l.take i).map El.abs) ++ grpL d q [l[i].abs] := by rw [take_snoc l i hlt, List.map_append, grpL_app]; rfl
    generalize l[i] = x at *
    obtain ⟨oo, oc, rfl, _⟩ := RecS.slice (OwnR.s hO)
    obtain ⟨ox, cx, hxdv, hxs, ge1, ge2, ge3⟩ := StS.opn hE.1
    obtain ⟨oa, ca, hxav, _⟩ := RecS.slice hE.2
    rw [hxdv] at x1
    rw [hxav] at x3
    have hskip : ∀ w6, Later w4 w6 → keepR d q x.abs = false → i + 1 ≤ l.length ∧ Later w1 w6 ∧ ∃ os', OwnE w6 w1.heap.size (.slice oo os.length oc) os' ∧ os'.map El.abs = grpL d q ((l.take (i + 1)).map El.abs) ∧ ∀ z ∈ os', ∃ x ∈ l, Pz w6 x (rowG d q x.abs) z := by
      intro w6 l6 hk
      refine ⟨by omega, l4.trans l6, os, hO.later l6, ?_, fun z hz => ?_⟩
      · rw [htk, grpL_skip d q hk, List.append_nil]; exact hos
      · obtain ⟨y, hy, hp⟩ := hZ z hz
        exact ⟨y, hy, hp.later l6⟩
    have fw := qd_wh (QB w4 l4)
    have fs := FS w4 l4
    have y1 := l04.cell x1
    repeat' (first | (simp (disch := omega) only [push_cast, seval, fw, fs, y1, addr_add_eq, Nat.zero_add]) | refine iX ?_ ?_ <;> intros | refine aI (by omega) ?_ | refine dq ?_)
    refine QFn.of hb29 (v := .bool (q.wh.takes d x.d)) (fun w' hl' => dtakes_c dv mv d m _ x.d q.wh w' (q1.wh.later (l4.trans hl')) hk (h1.later (l4.trans hl')) (Sl.later hxs (l04.trans hl'))) ?_
    repeat' (first | (simp (disch := omega) only [push_cast, seval]) | refine iX ?_ ?_ <;> intros | refine aI (by omega) ?_ | refine dq ?_)
    intro w5 l5
    have l15 := l4.trans l5
    have l05 := l01.trans l15
    obtain ⟨_, a1, a2, _, _, _⟩ := qdAt (QB w5 l15)
    have y0 := l05.cell x0
    cases htk2 : q.wh.takes d x.d with
    | false =>
      have hk : keepR d q x.abs = false := by
        unfold keepR
        rw [show q.wh.takes d x.abs.2.1 = false from htk2]; simp
      repeat' (first | (simp (disch := omega) only [push_cast, seval]) | refine iX ?_ ?_ <;> intros | refine aI (by omega) ?_ | refine dq ?_)
      intro w6 l6
      have hs := hskip w6 (l5.trans l6) hk
      repeat' (first | (simp (disch := omega) only [push_cast, seval]) | refine iX ?_ ?_ <;> intros | refine aI (by omega) ?_ | refine dq ?_)
      exact ⟨rfl, (i + 1, _), by simp (disch := omega) only [push_cast, seval], hs, by dsimp only; omega⟩
    | true =>
    by_cases c1 : x.t < q.fr
    · have e1 : decide (x.t < q.fr) = true := decide_eq_true c1
      have hk : keepR d q x.abs = false := by
        unfold keepR
        rw [show decide (q.fr ≤ x.abs.1) = false from decide_eq_false (by show ¬ q.fr ≤ x.t; omega)]; rfl
      repeat' (first | (simp (disch := omega) only [push_cast, seval, y0, a1, e1, addr_add_eq, Nat.zero_add]) | refine iX ?_ ?_ <;> intros | refine aI (by omega) ?_ | refine dq ?_)
      intro w6 l6
      have hs := hskip w6 (l5.trans l6) hk
      repeat' (first | (simp (disch := omega) only [push_cast, seval]) | refine iX ?_ ?_ <;> intros | refine aI (by omega) ?_ | refine dq ?_)
      exact ⟨rfl, (i + 1, _), by simp (disch := omega) only [push_cast, seval], hs, by dsimp only; omega⟩
    have e1 : decide (x.t < q.fr) = false := decide_eq_false c1
    by_cases c2 : q.to ≤ x.t
    · have e2 : decide (q.to ≤ x.t) = true := decide_eq_true c2
      have hk : keepR d q x.abs = false := by
        unfold keepR
        rw [show decide (x.abs.1 < q.to) = false from decide_eq_false (by show ¬ x.t < q.to; omega)]; simp
      repeat' (first | (simp (disch := omega) only [push_cast, seval, y0, a1, a2, e1, e2, addr_add_eq, Nat.zero_add]) | refine iX ?_ ?_ <;> intros | refine aI (by omega) ?_ | refine dq ?_)
      intro w6 l6
      have hs := hskip w6 (l5.trans l6) hk
      repeat' (first | (simp (disch := omega) only [push_cast, seval]) | refine iX ?_ ?_ <;> intros | refine aI (by omega) ?_ | refine dq ?_)
      exact ⟨rfl, (i + 1, _), by simp (disch := omega) only [push_cast, seval], hs, by dsimp only; omega⟩
    have e2 : decide (q.to ≤ x.t) = false := decide_eq_false c2
    have hk2 : keepR d q x.abs = true := by
      unfold keepR
      rw [show q.wh.takes d x.abs.2.1 = true from htk2, show decide (q.fr ≤ x.abs.1) = true from decide_eq_true (by show q.fr ≤ x.t; omega), show decide (x.abs.1 < q.to) = true from decide_eq_true (by show x.t < q.to; omega)]; rfl
    repeat' (first | (simp (disch := omega) only [push_cast, seval, y0, a1, a2, e1, e2, addr_add_eq, Nat.zero_add]) | refine iX ?_ ?_ <;> intros | refine aI (by omega) ?_ | refine dq ?_)
    intro w6 l6
    clear hskip
    have l46 := l5.trans l6
    have l16 := l4.trans l46
    have l06 := l01.trans l16
    have b06 := l06.cell x0
    have b26 := l06.cell x2
    have b36 := l06.cell x3
    have fq : cellsAt w6 ⟨kf + 1, 0, none⟩ 12 = some (qdC q) := Blk.cellsAt (l := qdC q) (QB w6 l16)
    have q6 := q1.later l16
    clear fw fs a1 a2 y0 y1
    repeat' (first | (simp (disch := omega) only [push_cast, seval]) | refine iX ?_ ?_ <;> intros | refine aI (by omega) ?_ | fail)
    refine drawn_k 19 ?_
    repeat' (first | (simp (disch := omega) only [push_cast, seval, fq, b06, b26, b36, addr_add_eq, Nat.zero_add]) | refine iX ?_ ?_ <;> intros | refine aI (by omega) ?_ | fail)
    refine NFn.fix hb22 (v := .int .i64 (bktN q x.t)) (fun w' hl => dbucket_c q x.t w' (q6.later hl) hC.2 hev) ?_
    repeat' (first | (simp (disch := omega) only [push_cast, seval, fq, b06, b26, b36, addr_add_eq, Nat.zero_add]) | refine iX ?_ ?_ <;> intros | refine aI (by omega) ?_ | fail)
    refine nP_build (.agg #[.int .i64 (bktN q x.t), .slice none 0 0, .int .i64 x.n, .slice oa x.a.length ca]) (fun w' => ?_) ?_
    · repeat' (first | (simp (disch := omega) only [push_cast, seval]) | refine iX ?_ ?_ <;> intros | refine aI (by omega) ?_ | fail)
    repeat' (first | (simp (disch := omega) only [push_cast, seval]) | refine iX ?_ ?_ <;> intros | refine aI (by omega) ?_ | fail)
    refine nA_of _ (PtV w6 55 #[.int .i64 0, .slice none 0 0, .int .i64 0, .slice none 0 0]) (stb_pt _ _ _ _) (fun w' hl => ?_) ?_
    · repeat' (first | (simp (disch := omega) only [push_cast, seval]) | refine iX ?_ ?_ <;> intros | refine aI (by omega) ?_ | fail)
      exact ⟨later_alloc _ _, w'.heap.size, rfl, hl.size, Blk.new _ _ _⟩
    repeat' (first | (simp (disch := omega) only [push_cast, seval]) | refine iX ?_ ?_ <;> intros | refine aI (by omega) ?_ | fail)
    rintro w7 l7 _ ⟨b, rfl, hb6, Bb⟩
    have hone : ∀ u ∈ [Value.int .i64 (bktN q x.t), .slice none 0 0, .int .i64 x.n, .slice oa x.a.length ca], u.oneCell' = true := by
      intro u hu
      simp at hu
      rcases hu with rfl | rfl | rfl | rfl <;> rfl
    refine vStore_blk (l := [.int .i64 0, .slice none 0 0, .int .i64 0, .slice none 0 0]) (xs := [.int .i64 (bktN q x.t), .slice none 0 0, .int .i64 x.n, .slice oa x.a.length ca]) Bb rfl rfl hone ?_
    intro w8 B8 c8
    have P8 : PS w6 w8 b w6.heap.size (bktN q x.t) x.n (.slice oa x.a.length ca) [] := ⟨Chg.later l7 c8 (by intro j hj; rw [List.mem_singleton.1 hj]; omega), _, B8, own_nil _ _ _ _⟩
    clear B8 c8 Bb
    repeat' (first | (simp (disch := omega) only [push_cast, seval]) | refine iX ?_ ?_ <;> intros | refine aI (by omega) ?_ | refine dq ?_)
    refine vc_loop W10_1 (fun k : Nat => [(12, .int .i64 (k : Int))])
      (fun k w' => k ≤ q.bl.length ∧ PS w6 w' b w6.heap.size (bktN q x.t) x.n (.slice oa x.a.length ca) (vals d (q.bl.take k) x.d)) (fun k => q.bl.length - k) 0 (by decide) ?_ ?_ ?_
    · simp (disch := omega) only [push_cast, seval]
    · exact ⟨by omega, by simpa [vals] using P8⟩
    clear P8
    rintro k uu3 w9 ⟨hk9, P9⟩
    have l69 := P9.later
    have l49 := l46.trans l69
    have l19 := l16.trans l69
    have l09 := l06.trans l69
    obtain ⟨_, _, _, _, a4, _⟩ := qdAt (QB w9 l19)
    rw [hbv] at a4
    by_cases hkl : k < q.bl.length
    · obtain ⟨j, hj, hjd⟩ := hin q.bl[k] (List.getElem_mem _)
      have hxl : x.d.length = d.length := hC.1.rr.2.1
      have hvt := vals_take (x := x.d) hkl hj (by omega)
      obtain ⟨au, rfl⟩ := hu.some hkl
      have hc := StS.atS (Sl.later hu l09) hkl
      generalize q.bl[k] = n at *
      obtain ⟨sd, _⟩ := cells2 (FS w9 l19)
      repeat' (first | (simp (disch := omega) only [push_cast, seval, a4, hc, sd, addr_add_eq, Nat.zero_add]) | refine iX ?_ ?_ <;> intros | refine aI (by omega) ?_ | refine dq ?_)
      refine QFn.of hb30 (v := fiT (fi d n)) (fun w' hl' => (dfind_c dv d n w' (h1.later (l19.trans hl')).dS).mono fun u w'' hu => ⟨by rw [hu.1, fnd_fi], by rw [hu.2]; exact Later.refl _⟩) ?_
      rw [hj]
      unfold fiT
      repeat' (first | (simp (disch := omega) only [push_cast, seval, Option.getD_some]) | refine iX ?_ ?_ <;> intros | refine aI (by omega) ?_ | refine dq ?_)
      intro wx lx
      have P9 := P9.step lx
      have l6x := l69.trans lx
      have l0x := l09.trans lx
      obtain ⟨_, dvc, Bc, hOc⟩ := P9
      obtain ⟨oc2, cc2, hdvc, _⟩ := StS.opn (Sl.of_own hOc)
      subst hdvc
      have f1 : wx.cell? ⟨b, 1, none⟩ = some (.slice oc2 (vals d (q.bl.take k) x.d).length cc2) := Bc.cell 1
      obtain ⟨ae, rfl⟩ : ∃ ae, ox = some ae := by
        cases ox with
        | some ae => exact ⟨ae, rfl⟩
        | none => have := ge3 rfl; rw [this] at hxl; simp at hxl; omega
      have hjx : j < x.d.length := by omega
      have fk := StS.atS (Sl.later hxs l0x) hjx
      have y1 := l0x.cell x1
      have hvl : (vals d (q.bl.take k) x.d).length = k := by simp [vals]; omega
      generalize vals d (q.bl.take k) x.d = ds at *
      generalize x.d[j] = s at *
      repeat' (first | (simp (disch := omega) only [push_cast, seval, f1, y1]) | refine iX ?_ ?_ <;> intros | refine aI (by omega) ?_ | fail)
      refine drawn_k 11 ?_
      repeat' (first | (simp (disch := omega) only [push_cast, seval, f1, y1, fk, addr_add_eq, Nat.zero_add]) | refine iX ?_ ?_ <;> intros | refine aI (by omega) ?_ | fail)
      refine nB_of _ (RowV wx 9 #[.string s] 1) (stb_row _ _ _ _) (fun w' hl => ?_) ?_
      · repeat' (first | (simp (disch := omega) only [push_cast, seval]) | refine iX ?_ ?_ <;> intros | refine aI (by omega) ?_ | fail)
        exact RowV.new hl _ _ _
      repeat' (first | (simp (disch := omega) only [push_cast, seval]) | refine iX ?_ ?_ <;> intros | refine aI (by omega) ?_ | fail)
      rintro wa la _ ⟨kb, rfl, hkb, Bk⟩
      have hsl : StS wa (.slice (some ⟨kb, 0, none⟩) 1 1) [s] := Sl.of_blk (xs := [.string s]) Bk rfl (by unfold maxLen; omega)
      have Bca := Bc.chg (Chg.of_later (ks := []) la) (by simp)
      have hOa := own_later hOc la
      have l6a := l6x.trans la
      refine vAppend_ss hOa hsl (by simp only [List.length_cons, List.length_nil]; omega) l6a.size ?_
      intro v' wb hob hgb _
      obtain ⟨q1', q2', q3'⟩ := PS.snoc l6a (by have := l7.size; omega) (Nat.le_refl _) Bca hOa hob hgb
      obtain ⟨o8, c8, hv8, _⟩ := StS.opn (Sl.of_own hob)
      subst hv8
      repeat' (first | (simp (disch := omega) only [push_cast, seval, q1', q2', addr_add_eq, Nat.zero_add]) | refine iX ?_ ?_ <;> intros | refine aI (by omega) ?_ | refine dq ?_)
      refine ⟨rfl, k + 1, by simp (disch := omega) only [push_cast, seval], ⟨by omega, ?_⟩, by dsimp only; omega⟩
      rw [hvt]
      exact q3'
    · have e0 : k = q.bl.length := by omega
      subst e0
      rw [List.take_length] at P9
      have ha9 : AgS w9 (.slice oa x.a.length ca) x.a := by
        have := (hE.later l09).2
        rwa [hxav] at this
      obtain ⟨z, hz, hzE, hzf, hzo, hzav, hza⟩ := P9.el ha9
      have hPz : Pz w9 x (rowG d q x.abs) z := ⟨hz, by rw [hzav, hxav], hza, _, hzo⟩
      unfold elC at hzf
      repeat' (first | (simp (disch := omega) only [push_cast, seval, a4, hzf, addr_add_eq, Nat.zero_add]) | refine iX ?_ ?_ <;> intros | refine aI (by omega) ?_ | refine dq ?_)
      have la := later_alloc w9 (.cells #[.int .i64 z.t, z.dv, .int .i64 z.n, z.av] 55)
      have Bl := Blk.new w9 #[.int .i64 z.t, z.dv, .int .i64 z.n, z.av] 55
      have l4a := l49.trans la
      have hO9 := hO.later l4a
      refine vAppend_e (r := [z]) hO9 (RecS.lit1 (elC_len z) Bl) (by intro q hq; rw [List.mem_singleton.1 hq]; exact hzE.later la) (by simp only [List.length_cons, List.length_nil]; omega) (l4.trans l4a).size ?_
      intro v' wb hob hgb _
      have lb := (l4.trans l4a).appended hO9 (Nat.le_refl _) hgb
      repeat' (first | (simp (disch := omega) only [push_cast, seval]) | refine iX ?_ ?_ <;> intros | refine aI (by omega) ?_ | refine dq ?_)
      refine ⟨rfl, (i + 1, v'), by simp (disch := omega) only [push_cast, seval], ⟨by dsimp only; omega, lb, os ++ [z], hob, by dsimp only; rw [htk, grpL_keep d q hk2, List.map_append, hos, List.map_singleton, hz]; rfl, fun q hq => ?_⟩, by dsimp only; omega⟩
      rcases List.mem_append.1 hq with hq | hq
      · obtain ⟨y, hy, hP'⟩ := hZ q hq
        exact ⟨y, hy, (hP'.later l4a).grown hO9 hgb⟩
      · rw [List.mem_singleton.1 hq]
        exact ⟨x, hxm, (hPz.later la).grown hO9 hgb⟩
  · have e0 : i = l.length := by omega
    subst e0
    rw [List.take_length] at hos
    have hgd : ∀ z ∈ os, EIs w4 z ∧ Gd q.bl.length A z.abs := fun z hz => by
      obtain ⟨y, hy, hP'⟩ := hZ z hz
      refine ⟨hP'.is ((hes y hy).1.later l04), ?_⟩
      have hG := (hes y hy).2.1
      rw [hP'.1]
      exact ⟨hG.1, hG.2.1, hG.2.2.1, by show (vals d q.bl y.abs.2.1).length = _; simp [vals], hG.2.2.2.2.1, hdl, hG.2.2.2.2.2.2⟩
    obtain ⟨oo, oc, rfl, _⟩ := RecS.slice (OwnR.s hO)
    repeat' (first | (simp (disch := omega) only [push_cast, seval]) | refine iX ?_ ?_ <;> intros | refine aI (by omega) ?_ | refine dq ?_)
    refine (dfold_c q.bl.length A _ os w4 (OwnR.s hO) hgd (by omega)).mono ?_
    rintro _ w5 ⟨vv, e, rfl, hf, l5⟩
    rw [hos] at hf
    repeat' (first | (simp (disch := omega) only [push_cast, seval]) | refine iX ?_ ?_ <;> intros | refine aI (by omega) ?_ | refine dq ?_)
    exact ⟨_, _, rfl, hf, l04.trans l5⟩
end Go.Proofs.YtnofalhkapmcnaaGreat
end
section
set_option linter.unusedSimpArgs false
namespace Go.Proofs.YtnofalhkapmcnaaGreat
open Go.Vc Go.Key Go.Cub Go.Fold
set_option maxRecDepth 100000
set_option maxHeartbeats 1000000 in
theorem dterm_c (dv mv : Value) (d m : List ByteArray) (t : TD) (e : El) (w : World) (hS : ScIs w dv mv d m) (ht : TmOk m t) (hE : EIs w e) (hl : e.a.length = m.length) : FnC Tryz.prog 62 #[scV dv mv, .agg (tdC t).toArray, .agg (elC e).toArray] w fun r w' => r = .int .i64 (tmV m t e.abs) ∧ Later w w' := by
  have esc : scV dv mv = .agg #[dv, mv] := rfl
  rw [esc]
  refine enter62 _ _ _ ?_
  unfold B62
  have eca : (Value.agg #[dv, mv]).cells = #[dv, mv] := rfl
  have ecb : (Value.agg (tdC t).toArray).cells = (tdC t).toArray := rfl
  have ecc : (Value.agg (elC e).toArray).cells = (elC e).toArray := rfl
  obtain ⟨l1, s1, F1⟩ := box2 w dv mv 24
  repeat' (first | (simp (disch := omega) only [push_cast, seval, eca, s1]) | refine iX ?_ ?_ <;> intros | refine aI (by omega) ?_ | fail)
  generalize w.alloc (.cells #[dv, mv] 24) = w1 at *
  have l2 := later_alloc w1 (.cells (tdC t).toArray 58)
  have B2 := Blk.new w1 (tdC t).toArray 58
  have s2 : (w1.alloc (.cells (tdC t).toArray 58)).heap.size = w1.heap.size + 1 := World.size_alloc w1 _
  rw [s1] at B2 s2
  repeat' (first | (simp (disch := omega) only [push_cast, seval, ecb, s1, s2]) | refine iX ?_ ?_ <;> intros | refine aI (by omega) ?_ | fail)
  generalize w1.alloc (.cells (tdC t).toArray 58) = w2 at *
  obtain ⟨l3, s3, B3⟩ := boxR w2 e
  rw [s2] at B3 s3
  repeat' (first | (simp (disch := omega) only [push_cast, seval, ecc, s2, s3]) | refine iX ?_ ?_ <;> intros | refine aI (by omega) ?_ | fail)
  generalize w2.alloc (.cells (elC e).toArray 55) = w3 at *
  have l23 := l2.trans l3
  have l03 := l1.trans l23
  generalize hkf : w.heap.size = kf at *
  have a1 := (F1 w3 l23).2.1
  have B23 := B2.chg (Chg.of_later (ks := []) l3) (by simp)
  have b0 : w3.cell? ⟨kf + 1, 0, none⟩ = some (.int .i64 t.f) := B23.cell 0
  have b1 : w3.cell? ⟨kf + 1, 1, none⟩ = some (.string t.m) := B23.cell 1
  have c2 : w3.cell? ⟨kf + 1 + 1, 2, none⟩ = some (.int .i64 e.n) := B3.cell 2
  have c3 : w3.cell? ⟨kf + 1 + 1, 3, none⟩ = some e.av := B3.cell 3
  obtain ⟨h1, h2, h3⟩ := ht
  have hS3 := hS.later l03
  have hA3 := (hE.later l03).2
  clear F1 B2 B23 B3 eca ecb ecc s1 s2 s3
  by_cases k0 : t.f = 0
  · have e0 : decide (t.f = 0) = true := decide_eq_true k0
    unfold tmV
    rw [if_pos k0]
    repeat' (first | (simp (disch := omega) only [push_cast, seval, b0, c2, e0, addr_add_eq, Nat.zero_add]) | refine iX ?_ ?_ <;> intros | refine aI (by omega) ?_ | refine dq ?_)
    first | exact ⟨rfl, l03⟩ | exact l03
  have e0 : decide (t.f = 0) = false := decide_eq_false k0
  have hi := fi_lt (h3 k0)
  rw [← hl] at hi
  have hv : tmV m t e.abs = (if t.f = 1 then (e.a[(fi m t.m).getD 0]).1 else if t.f = 2 then (e.a[(fi m t.m).getD 0]).2.1 else (e.a[(fi m t.m).getD 0]).2.2) := by
    unfold tmV
    rw [if_neg k0]
    show (if t.f = 1 then (e.a[(fi m t.m).getD 0]!).1 else if t.f = 2 then (e.a[(fi m t.m).getD 0]!).2.1 else (e.a[(fi m t.m).getD 0]!).2.2) = _
    rw [getElem!_pos e.a _ hi]
  rw [hv]
  repeat' (first | (simp (disch := omega) only [push_cast, seval, a1, b0, b1, e0, addr_add_eq, Nat.zero_add]) | refine iX ?_ ?_ <;> intros | refine aI (by omega) ?_ | refine dq ?_)
  refine (dfind_c mv m t.m w3 hS3.mS).mono ?_
  rintro _ w0 ⟨rfl, h0⟩
  obtain rfl := h0.symm
  rw [fnd_fi]
  unfold fiT
  obtain ⟨oa, ca, hav, _⟩ := RecS.slice hA3
  rw [hav] at c3 hA3
  generalize (fi m t.m).getD 0 = i at *
  obtain ⟨a, rfl, _⟩ := RecS.at agC_len hA3 hi
  have f0 := RecS.cell agC_len hA3 hi (j := 0) (x := .int .i64 (e.a[i]).1) rfl
  have f1 := RecS.cell agC_len hA3 hi (j := 1) (x := .int .i64 (e.a[i]).2.1) rfl
  have f2 := RecS.cell agC_len hA3 hi (j := 2) (x := .int .i64 (e.a[i]).2.2) rfl
  rw [addr_add_zero] at f0
  by_cases k1 : t.f = 1
  · have e1 : decide (t.f = 1) = true := decide_eq_true k1
    rw [if_pos k1]
    repeat' (first | (simp (disch := omega) only [push_cast, seval, b0, c3, f0, e1, addr_add_zero, addr_add_eq, Nat.zero_add]) | refine iX ?_ ?_ <;> intros | refine aI (by omega) ?_ | refine dq ?_)
    first | exact ⟨rfl, l03⟩ | exact l03
  have e1 : decide (t.f = 1) = false := decide_eq_false k1
  by_cases k2 : t.f = 2
  · have e2 : decide (t.f = 2) = true := decide_eq_true k2
    rw [if_neg k1, if_pos k2]
    repeat' (first | (simp (disch := omega) only [push_cast, seval, b0, c3, f1, e1, e2, addr_add_eq, Nat.zero_add]) | refine iX ?_ ?_ <;> intros | refine aI (by omega) ?_ | refine dq ?_)
    first | exact ⟨rfl, l03⟩ | exact l03
  · have e2 : decide (t.f = 2) = false := decide_eq_false k2
    rw [if_neg k1, if_neg k2]
    repeat' (first | (simp (disch := omega) only [push_cast, seval, b0, c3, f2, e1, e2, addr_add_eq, Nat.zero_add]) | refine iX ?_ ?_ <;> intros | refine aI (by omega) ?_ | refine dq ?_)
    first | exact ⟨rfl, l03⟩ | exact l03
set_option maxHeartbeats 1000000 in
theorem dstays_c (dv mv : Value) (d m : List ByteArray) (q : QD) (e : El) (w : World) (hS : ScIs w dv mv d m) (hq : q.Ok w) (ht : ∀ h ∈ q.hl, TmOk m h.t) (hg : ∀ h ∈ q.hl, -1 ≤ h.sign ∧ h.sign ≤ 1) (hE : EIs w e) (hl : e.a.length = m.length) : FnC Tryz.prog 61 #[scV dv mv, .agg (qdC q).toArray, .agg (elC e).toArray] w fun r w' => r = .bool (stQ m q.hl e.abs) ∧ Later w w' := by
  have esc : scV dv mv = .agg #[dv, mv] := rfl
  rw [esc]
  obtain ⟨ho, hc, hhv, hh1, hh2⟩ := RecS.slice hq.hv
  refine enter61 _ _ _ ?_
  unfold B61
  have eca : (Value.agg #[dv, mv]).cells = #[dv, mv] := rfl
  have ecb : (Value.agg (qdC q).toArray).cells = (qdC q).toArray := rfl
  have ecc : (Value.agg (elC e).toArray).cells = (elC e).toArray := rfl
  obtain ⟨l1, s1, F1⟩ := box2 w dv mv 24
  repeat' (first | (simp (disch := omega) only [push_cast, seval, eca, s1]) | refine iX ?_ ?_ <;> intros | refine aI (by omega) ?_ | fail)
  generalize w.alloc (.cells #[dv, mv] 24) = w1 at *
  have l2 := later_alloc w1 (.cells (qdC q).toArray 32)
  have B2 := Blk.new w1 (qdC q).toArray 32
  have s2 : (w1.alloc (.cells (qdC q).toArray 32)).heap.size = w1.heap.size + 1 := World.size_alloc w1 _
  rw [s1] at B2 s2
  repeat' (first | (simp (disch := omega) only [push_cast, seval, ecb, s1, s2]) | refine iX ?_ ?_ <;> intros | refine aI (by omega) ?_ | fail)
  generalize w1.alloc (.cells (qdC q).toArray 32) = w2 at *
  obtain ⟨l3, s3, B3⟩ := boxR w2 e
  rw [s2] at B3 s3
  repeat' (first | (simp (disch := omega) only [push_cast, seval, ecc, s2, s3]) | refine iX ?_ ?_ <;> intros | refine aI (by omega) ?_ | fail)
  generalize w2.alloc (.cells (elC e).toArray 55) = w3 at *
  have l23 := l2.trans l3
  have l03 := l1.trans l23
  generalize hkf : w.heap.size = kf at *
  have FS := fun w' (hl : Later w3 w') => (F1 w' (l23.trans hl)).2.2
  have FQ : ∀ w', Later w3 w' → w'.cell? ⟨kf + 1, 6 + 3, none⟩ = some (.slice ho q.hl.length hc) := fun w' hl => by
    have := (qdLater B2 (l3.trans hl)).cell 9
    rw [← hhv]; exact this
  have FR : ∀ w', Later w3 w' → cellsAt w' ⟨kf + 1 + 1, 0, none⟩ 4 = some (elC e) := fun w' hl => cellsAt_later hl _ (Blk.cellsAt (l := elC e) B3)
  have hhl := hq.hv.later l03
  rw [hhv] at hhl
  clear F1 B2 B3 eca ecb ecc s1 s2 s3
  have c9 := FQ w3 (Later.refl _)
  repeat' (first | (simp (disch := omega) only [push_cast, seval, c9, addr_add_eq, Nat.zero_add]) | refine iX ?_ ?_ <;> intros | refine aI (by omega) ?_ | refine dq ?_)
  refine vc_loop W61_0 (fun i : Nat => [(6, .bool false), (7, .int .i64 (i : Int))]) (fun i w' => i ≤ q.hl.length ∧ Later w3 w' ∧ stQ m (q.hl.take i) e.abs = true) (fun i => q.hl.length - i) 0 (by decide) ?_ ?_ ?_
  · simp (disch := omega) only [push_cast, seval]
    try rfl
  · exact ⟨Nat.zero_le _, Later.refl _, rfl⟩
  rintro i uu w4 ⟨hi, l4, hall⟩
  have c9 := FQ w4 l4
  by_cases hil : i < q.hl.length
  · have hd : decide ((i : Int) < (q.hl.length : Int)) = true := decide_eq_true (by omega)
    obtain ⟨aa, rfl, fk⟩ := RecS.at hdC_len (hhl.later l4) hil
    have hm := List.getElem_mem hil
    have htm := ht _ hm
    have hsg := hg _ hm
    have hsn : stQ m (q.hl.take (i + 1)) e.abs = decide (cmI (tmV m (q.hl[i]).t e.abs) (q.hl[i]).value = (q.hl[i]).sign) := by
      unfold stQ at hall ⊢
      rw [take_snoc q.hl i hil, List.all_append, hall, Bool.true_and]
      simp
    have hno : decide (cmI (tmV m (q.hl[i]).t e.abs) (q.hl[i]).value = (q.hl[i]).sign) = false → stQ m q.hl e.abs = false := fun hh => by
      unfold stQ
      rw [List.all_eq_false]
      exact ⟨_, hm, by rw [hh]; simp⟩
    generalize q.hl[i] = x at *
    have fk' : cellsAt w4 (aa.add (i * 4)) 4 = some [.int .i64 x.t.f, .string x.t.m, .int .i64 x.sign, .int .i64 x.value] := fk
    repeat' (first | (simp (disch := omega) only [push_cast, seval, c9, fk', hd, addr_add_eq, Nat.zero_add]) | refine iX ?_ ?_ <;> intros | refine aI (by omega) ?_ | refine dq ?_)
    refine vStore_new rfl rfl (by intro u hu; simp at hu; rcases hu with rfl | rfl | rfl | rfl <;> rfl) ?_
    have l5 := later_alloc w4 (.cells #[.int .i64 x.t.f, .string x.t.m, .int .i64 x.sign, .int .i64 x.value] 103)
    have B5 := Blk.new w4 #[.int .i64 x.t.f, .string x.t.m, .int .i64 x.sign, .int .i64 x.value] 103
    generalize w4.alloc (.cells #[.int .i64 x.t.f, .string x.t.m, .int .i64 x.sign, .int .i64 x.value] 103) = w5 at *
    generalize w4.heap.size = kh at *
    have l45 := l4.trans l5
    have t0 : cellsAt w5 ⟨kh, 0, none⟩ 2 = some (tdC x.t) := by
      refine cellsAt_of 2 _ _ rfl fun i x hx => ?_
      rw [addr_add_eq]
      match i, hx with
      | 0, hx => cases hx; exact B5.cell 0
      | 1, hx => cases hx; exact B5.cell 1
      | n + 2, hx => exact absurd hx (by simp [tdC])
    have f5 := FS w5 l45
    have r5 := FR w5 l45
    repeat' (first | (simp (disch := omega) only [push_cast, seval, t0, f5, r5, addr_add_eq, Nat.zero_add]) | refine iX ?_ ?_ <;> intros | refine aI (by omega) ?_ | refine dq ?_)
    refine (dterm_c dv mv d m x.t e w5 (hS.later (l03.trans l45)) htm (hE.later (l03.trans l45)) hl).mono ?_
    rintro _ w6 ⟨rfl, l6⟩
    have B6 := B5.chg (Chg.of_later (ks := []) l6) (by simp)
    have g2 : w6.cell? ⟨kh, 2, none⟩ = some (.int .i64 x.sign) := B6.cell 2
    have g3 : w6.cell? ⟨kh, 3, none⟩ = some (.int .i64 x.value) := B6.cell 3
    have l46 := l45.trans l6
    generalize tmV m x.t e.abs = n at *
    have hcm : (n < x.value ∧ cmI n x.value = -1) ∨ (n = x.value ∧ cmI n x.value = 0) ∨ (x.value < n ∧ cmI n x.value = 1) := by
      unfold cmI
      by_cases q1 : n < x.value
      · rw [if_pos q1]; exact .inl ⟨q1, rfl⟩
      · rw [if_neg q1]
        by_cases q2 : x.value < n
        · rw [if_pos q2]; exact .inr (.inr ⟨q2, rfl⟩)
        · rw [if_neg q2]; exact .inr (.inl ⟨by omega, rfl⟩)
    have fin : ∀ b, b = decide (cmI n x.value = x.sign) → (b = true → stQ m (q.hl.take (i + 1)) e.abs = true) ∧ (b = false → stQ m q.hl e.abs = false) := fun b hb => ⟨fun h => by rw [hsn, ← hb, h], fun h => hno (by rw [← hb, h])⟩
    clear hsn hno
    have hs3 : x.sign = -1 ∨ x.sign = 0 ∨ x.sign = 1 := by omega
    by_cases hok : cmI n x.value = x.sign
    · have hst := (fin true (decide_eq_true hok).symm).1 rfl
      rcases hs3 with hs | hs | hs
      · have hlt : n < x.value := by omega
        rw [hs] at g2
        repeat' (first | (simp (disch := omega) only [push_cast, seval, g2, g3, addr_add_eq, Nat.zero_add]) | refine iX ?_ ?_ <;> intros | refine aI (by omega) ?_ | refine dq ?_)
        exact ⟨rfl, i + 1, by simp (disch := omega) only [push_cast, seval], ⟨by omega, l46, hst⟩, by dsimp only; omega⟩
      · have hlt : n = x.value := by omega
        have de : decide (n = x.value) = true := decide_eq_true hlt
        rw [hs] at g2
        repeat' (first | (simp (disch := omega) only [push_cast, seval, g2, g3, de, decide_true, Bool.not_true, addr_add_eq, Nat.zero_add]) | refine iX ?_ ?_ <;> intros | refine aI (by omega) ?_ | refine dq ?_)
        exact ⟨rfl, i + 1, by simp (disch := omega) only [push_cast, seval], ⟨by omega, l46, hst⟩, by dsimp only; omega⟩
      · have hlt : x.value < n := by omega
        rw [hs] at g2
        repeat' (first | (simp (disch := omega) only [push_cast, seval, g2, g3, addr_add_eq, Nat.zero_add]) | refine iX ?_ ?_ <;> intros | refine aI (by omega) ?_ | refine dq ?_)
        exact ⟨rfl, i + 1, by simp (disch := omega) only [push_cast, seval], ⟨by omega, l46, hst⟩, by dsimp only; omega⟩
    · have hst := (fin false (decide_eq_false hok).symm).2 rfl
      rw [hst]
      rcases hs3 with hs | hs | hs
      · have hlt : x.value ≤ n := by omega
        rw [hs] at g2
        repeat' (first | (simp (disch := omega) only [push_cast, seval, g2, g3, addr_add_eq, Nat.zero_add]) | refine iX ?_ ?_ <;> intros | refine aI (by omega) ?_ | refine dq ?_)
        first | exact ⟨rfl, (l03.trans l46)⟩ | exact (l03.trans l46)
      · have hlt : ¬ n = x.value := by omega
        have de : decide (n = x.value) = false := decide_eq_false hlt
        rw [hs] at g2
        repeat' (first | (simp (disch := omega) only [push_cast, seval, g2, g3, de, decide_true, Bool.not_true, Bool.not_false, addr_add_eq, Nat.zero_add]) | refine iX ?_ ?_ <;> intros | refine aI (by omega) ?_ | refine dq ?_)
        first | exact ⟨rfl, (l03.trans l46)⟩ | exact (l03.trans l46)
      · have hlt : n ≤ x.value := by omega
        rw [hs] at g2
        repeat' (first | (simp (disch := omega) only [push_cast, seval, g2, g3, addr_add_eq, Nat.zero_add]) | refine iX ?_ ?_ <;> intros | refine aI (by omega) ?_ | refine dq ?_)
        first | exact ⟨rfl, (l03.trans l46)⟩ | exact (l03.trans l46)
  · have hd : decide ((i : Int) < (q.hl.length : Int)) = false := decide_eq_false (by omega)
    rw [List.take_of_length_le (by omega)] at hall
    rw [hall]
    repeat' (first | (simp (disch := omega) only [push_cast, seval, c9, hd, addr_add_eq, Nat.zero_add]) | refine iX ?_ ?_ <;> intros | refine aI (by omega) ?_ | refine dq ?_)
    first | exact ⟨rfl, (l03.trans l4)⟩ | exact (l03.trans l4)
set_option maxHeartbeats 1000000 in
theorem dahead_c (q : QD) (x y : Gx) (w : World) (hx : GxIs w x) (hy : GxIs w y) (hlx : q.od.natAbs ≤ x.k.length) (hly : q.od.natAbs ≤ y.k.length) : FnC Tryz.prog 63 #[.agg (qdC q).toArray, .agg (gxC x).toArray, .agg (gxC y).toArray] w fun r w' => r = .bool (rglt q.od x.abs y.abs) ∧ Later w w' := by
  refine enter63 _ _ _ ?_
  unfold B63
  have eca : (Value.agg (qdC q).toArray).cells = (qdC q).toArray := rfl
  have ecb : (Value.agg (gxC x).toArray).cells = (gxC x).toArray := rfl
  have ecc : (Value.agg (gxC y).toArray).cells = (gxC y).toArray := rfl
  have l1 := later_alloc w (.cells (qdC q).toArray 32)
  have B1 := Blk.new w (qdC q).toArray 32
  have s1 : (w.alloc (.cells (qdC q).toArray 32)).heap.size = w.heap.size + 1 := World.size_alloc w _
  repeat' (first | (simp (disch := omega) only [push_cast, seval, eca, s1]) | refine iX ?_ ?_ <;> intros | refine aI (by omega) ?_ | fail)
  generalize w.alloc (.cells (qdC q).toArray 32) = w1 at *
  have l2 := later_alloc w1 (.cells (gxC x).toArray 61)
  have B2 := Blk.new w1 (gxC x).toArray 61
  have s2 : (w1.alloc (.cells (gxC x).toArray 61)).heap.size = w1.heap.size + 1 := World.size_alloc w1 _
  rw [s1] at B2 s2
  repeat' (first | (simp (disch := omega) only [push_cast, seval, ecb, s1, s2]) | refine iX ?_ ?_ <;> intros | refine aI (by omega) ?_ | fail)
  generalize w1.alloc (.cells (gxC x).toArray 61) = w2 at *
  have l3 := later_alloc w2 (.cells (gxC y).toArray 61)
  have B3 := Blk.new w2 (gxC y).toArray 61
  rw [s2] at B3
  repeat' (first | (simp (disch := omega) only [push_cast, seval, ecc, s2]) | refine iX ?_ ?_ <;> intros | refine aI (by omega) ?_ | fail)
  generalize w2.alloc (.cells (gxC y).toArray 61) = w3 at *
  have l23 := l2.trans l3
  have l03 := l1.trans l23
  generalize hkf : w.heap.size = kf at *
  obtain ⟨_, _, _, _, _, _, _, _, _, _, a7, _⟩ := qdAt (qdLater B1 l23)
  have B23 := B2.chg (Chg.of_later (ks := []) l3) (by simp)
  have fx : w3.cell? ⟨kf + 1, 2, none⟩ = some x.kv := B23.cell 2
  have fy : w3.cell? ⟨kf + 1 + 1, 2, none⟩ = some y.kv := B3.cell 2
  obtain ⟨ox, cx, hkx, gx1, gx2, hxk, _⟩ := Sl.openM (hx.later l03).2
  obtain ⟨oy, cy, hky, gy1, gy2, hyk, _⟩ := Sl.openM (hy.later l03).2
  rw [hkx] at fx
  rw [hky] at fy
  clear B1 B2 B23 B3 eca ecb ecc s1 s2
  by_cases h0 : q.od = 0
  · have e0 : decide (q.od = 0) = true := decide_eq_true h0
    have hv : rglt q.od x.abs y.abs = false := by unfold rglt gkey; rw [if_pos h0, if_pos h0]; rfl
    rw [hv]
    repeat' (first | (simp (disch := omega) only [push_cast, seval, a7, e0, addr_add_eq, Nat.zero_add]) | refine iX ?_ ?_ <;> intros | refine aI (by omega) ?_ | refine dq ?_)
    first | exact ⟨rfl, l03⟩ | exact l03
  have e0 : decide (q.od = 0) = false := decide_eq_false h0
  obtain ⟨i, hi⟩ : ∃ i, i = q.od.natAbs - 1 := ⟨_, rfl⟩
  have hix : i < x.k.length := by omega
  have hiy : i < y.k.length := by omega
  obtain ⟨ax, rfl⟩ := hxk.some hix
  obtain ⟨ay, rfl⟩ := hyk.some hiy
  have cax := hxk.atI hix
  have cay := hyk.atI hiy
  by_cases hp : 0 < q.od
  · have e1 : decide (0 < q.od) = true := decide_eq_true hp
    have em : q.od - 1 = (i : Int) := by omega
    have hv : rglt q.od x.abs y.abs = decide (x.k[i] < y.k[i]) := by
      unfold rglt gkey
      rw [if_neg h0, if_neg h0, if_neg (by omega), if_neg (by omega)]
      show decide (x.k[q.od.natAbs - 1]! < y.k[q.od.natAbs - 1]!) = _
      rw [← hi, getElem!_pos x.k i hix, getElem!_pos y.k i hiy]
    rw [hv]
    repeat' (first | (simp (disch := omega) only [push_cast, seval, a7, e0, e1, em, fx, fy, cax, cay, addr_add_eq, Nat.zero_add]) | refine iX ?_ ?_ <;> intros | refine aI (by omega) ?_ | refine dq ?_)
    intro w4 l4
    repeat' (first | (simp (disch := omega) only [push_cast, seval]) | refine iX ?_ ?_ <;> intros | refine aI (by omega) ?_ | refine dq ?_)
    first | exact ⟨rfl, (l03.trans l4)⟩ | exact (l03.trans l4)
  · have e1 : decide (0 < q.od) = false := decide_eq_false hp
    have em : 0 - q.od - 1 = (i : Int) := by omega
    have hv : rglt q.od x.abs y.abs = decide (y.k[i] < x.k[i]) := by
      unfold rglt gkey
      rw [if_neg h0, if_neg h0, if_pos (by omega), if_pos (by omega)]
      show decide (-(x.k[q.od.natAbs - 1]!) < -(y.k[q.od.natAbs - 1]!)) = _
      rw [← hi, getElem!_pos x.k i hix, getElem!_pos y.k i hiy]
      simp only [Int.neg_lt_neg_iff]
    rw [hv]
    repeat' (first | (simp (disch := omega) only [push_cast, seval, a7, e0, e1, em, fx, fy, cax, cay, addr_add_eq, Nat.zero_add]) | refine iX ?_ ?_ <;> intros | refine aI (by omega) ?_ | refine dq ?_)
    intro w4 l4
    repeat' (first | (simp (disch := omega) only [push_cast, seval]) | refine iX ?_ ?_ <;> intros | refine aI (by omega) ?_ | refine dq ?_)
    first | exact ⟨rfl, (l03.trans l4)⟩ | exact (l03.trans l4)
end Go.Proofs.YtnofalhkapmcnaaGreat
end
