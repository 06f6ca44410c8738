/- GroupTells: what is told of right rows is what the document tells, their fold is the document's, and the rows stay as they were; no conditions beyond the statement's own. -/
import Derived.Test.YtnofalhkapmcnaaGreatRows
import Derived.Test.YtnofalhkapmcnaaGreatPartM
set_option linter.all false
set_option linter.unusedSimpArgs false
namespace Go.Proofs.YtnofalhkapmcnaaGreat.groupTells
open Go.Vc Go.RowKit Go.ChangeShapes Go.Key Go.Cub Go.Fold Go.Stab Go.Proofs.YtnofalhkapmcnaaGreat
set_option maxRecDepth 100000
/-- What is more of such a query. -/
theorem more_of {d m : List ByteArray} {q : QD} (h : ckQ d m q = 0) : (q.ev = 0 ∨ Rt q.ev) ∧ ∀ h ∈ q.hl, -1 ≤ h.sign ∧ h.sign ≤ 1 := by
  have hsh : shOk q = true := by
    cases h1 : shOk q with
    | true => rfl
    | false => unfold ckQ at h; rw [h1, if_pos rfl] at h; cases h
  have hns : nsOk d m q = true := by
    cases h1 : nsOk d m q with
    | true => rfl
    | false => unfold ckQ at h; rw [hsh, h1, if_neg (by simp), if_pos rfl] at h; cases h
  have htp : tpOk q = true := by
    cases h1 : tpOk q with
    | true => rfl
    | false => unfold ckQ at h; rw [hsh, hns, h1, if_neg (by simp), if_neg (by simp), if_pos rfl] at h; cases h
  unfold shOk at hsh
  unfold tpOk evOk grOk at htp
  simp only [Bool.and_eq_true, Bool.or_eq_true, decide_eq_true_eq, List.all_eq_true] at hsh htp
  obtain ⟨⟨_, s6⟩, _⟩ := hsh
  obtain ⟨⟨_, t3⟩, _⟩ := htp
  refine ⟨t3, fun h hh => ?_⟩
  have := s6 h hh
  unfold hvOk at this
  simp only [Bool.and_eq_true, decide_eq_true_eq] at this
  omega
theorem fin_one {m : List ByteArray} {q : QD} {w w' : World} {x y : Value} {e f : Int} {l : List R} (hx : FinR m q w x e l) (hy : FinR m q w' y f l) :
    e = f ∧ ∃ xs ys : List Gx, RecS gxC 3 w x xs ∧ RecS gxC 3 w' y ys ∧ (∀ z ∈ xs, GxIs w z) ∧ (∀ z ∈ ys, GxIs w' z) ∧ xs.map Gx.abs = ys.map Gx.abs := by
  rcases hx with ⟨rfl, rfl, hb⟩ | ⟨rfl, xs, hr, hE, hF⟩
  · rcases hy with ⟨rfl, rfl, _⟩ | ⟨rfl, ys, _, _, hG⟩
    · exact ⟨rfl, [], [], RecS.nil _, RecS.nil _, by simp, by simp, rfl⟩
    · obtain ⟨_, hG, _⟩ := hG
      exact absurd hb hG.ok
  · rcases hy with ⟨rfl, rfl, hb⟩ | ⟨rfl, ys, hr', hH, hG⟩
    · obtain ⟨_, hF, _⟩ := hF
      exact absurd hb hF.ok
    · exact ⟨rfl, xs, ys, hr, hr', hE, hH, hG.one hF fun rows out h1 h2 => Option.some.inj (Res.one (o := some rows) (o' := some out) (Stb.refl _) h1 h2)⟩
theorem fold_one {D A B : Nat} {w w' : World} {x y : Value} {e f : Int} {l : List R} (hx : FoldR D A w B x e l) (hy : FoldD D A w' y f l) :
    e = f ∧ ∃ xs ys : List El, RecS elC 4 w x xs ∧ RecS elC 4 w' y ys ∧ (∀ z ∈ xs, EIs w z) ∧ (∀ z ∈ ys, EIs w' z) ∧ xs.map El.abs = ys.map El.abs := by
  rcases hx with ⟨rfl, rfl, hb⟩ | ⟨rfl, xs, ho, hF, hE⟩
  · rcases hy with ⟨rfl, rfl, _⟩ | ⟨rfl, ys, _, hG, _⟩
    · exact ⟨rfl, [], [], RecS.nil _, RecS.nil _, by simp, by simp, rfl⟩
    · exact absurd hb hG.ok
  · rcases hy with ⟨rfl, rfl, hb⟩ | ⟨rfl, ys, hr, hG, hH⟩
    · exact absurd hb hF.ok
    · exact ⟨rfl, xs, ys, OwnR.s ho, hr, fun z hz => (hE z hz).1.is, fun z hz => (hH z hz).1, Option.some.inj (Res.one (o := some (ys.map El.abs)) (o' := some (xs.map El.abs)) (Stb.refl _) hG hF)⟩
set_option maxHeartbeats 4000000 in
theorem law_c (dv mv rv : Value) (d m : List ByteArray) (q : QD) (l : List El) (w : World) (h : ScIs w dv mv d m) (hq : q.Ok w) (hl : RecS elC 4 w rv l) (hes : ∀ e ∈ l, RowQ w e) :
    FnC Tryz.prog 3 #[.agg [dv, mv].toArray, .agg (qdC q).toArray, rv] w fun v w' => v = .bool true ∧ Later w w' := by
  obtain ⟨lo, lc, rfl, gl1, gl2⟩ := hl.slice
  refine enter3 _ _ _ ?_
  unfold B3
  have eca : (Value.agg (qdC q).toArray).cells = (qdC q).toArray := rfl
  have ecb : (Value.agg [dv, mv].toArray).cells = #[dv, mv] := rfl
  obtain ⟨l1, s1, F1⟩ := box2 w dv mv 24
  have B2 := Blk.new (w.alloc (.cells #[dv, mv] 24)) (qdC q).toArray 32
  have l2 := later_alloc (w.alloc (.cells #[dv, mv] 24)) (.cells (qdC q).toArray 32)
  rw [s1] at B2
  repeat' (first | (simp (disch := omega) only [push_cast, seval, eca, ecb, s1]) | refine iX ?_ ?_ <;> intros | refine aI (by omega) ?_ | fail)
  have l01 := l1.trans l2
  have FS : ∀ w', Later ((w.alloc (.cells #[dv, mv] 24)).alloc (.cells (qdC q).toArray 32)) w' → cellsAt w' ⟨w.heap.size, 0, none⟩ 2 = some [dv, mv] := fun w' hl => (F1 w' (l2.trans hl)).2.2
  clear F1 l1 l2 s1
  generalize (w.alloc (.cells #[dv, mv] 24)).alloc (.cells (qdC q).toArray 32) = w1 at *
  generalize hkq : w.heap.size = kf at *
  have FQ := fun w' (hl : Later w1 w') => Blk.cellsAt (l := qdC q) (qdLater B2 hl)
  have FQ : ∀ w', Later w1 w' → cellsAt w' ⟨kf + 1, 0, none⟩ 12 = some (qdC q) := FQ
  have fs := FS w1 (Later.refl _)
  have fq := FQ w1 (Later.refl _)
  repeat' (first | (simp (disch := omega) only [push_cast, seval, fs, fq]) | refine iX ?_ ?_ <;> intros | refine aI (by omega) ?_ | refine dq ?_)
  refine (fits25_c dv mv _ d m q l w1 (h.later l01) (hq.later l01) (hl.later l01) (fun e he => ⟨(hes e he).1.later l01, (hes e he).2⟩)).mono ?_
  rintro _ w2 ⟨rfl, l2⟩
  have l02 := l01.trans l2
  cases hF : f25 d m q l with
  | false =>
    repeat' (first | (simp (disch := omega) only [push_cast, seval]) | refine iX ?_ ?_ <;> intros | refine aI (by omega) ?_ | refine dq ?_)
    refine (alive25_c w2).mono ?_
    rintro _ w3 ⟨rfl, l3⟩
    repeat' (first | (simp (disch := omega) only [push_cast, seval]) | refine iX ?_ ?_ <;> intros | refine aI (by omega) ?_ | refine dq ?_)
    first | exact ⟨rfl, (l02.trans l3)⟩ | exact (l02.trans l3)
  | true =>
  unfold f25 at hF
  simp only [Bool.and_eq_true, decide_eq_true_eq] at hF
  obtain ⟨⟨h13, h23⟩, hck⟩ := hF
  obtain ⟨hT, hwh, _⟩ := ty_of hck
  obtain ⟨hev, hsg⟩ := more_of hck
  have hk : TkOk q.wh := hwh.elim (fun h => .inl h.1) (fun h => .inr ⟨30, h⟩)
  have hcr := cr_of h13
  have hll := h13.2.2.1
  have hbk := (f23_cnt h23).2
  clear h13 h23 hck fs fq hwh
  have FE : ∀ w', Later w w' → ∀ e ∈ l, EIs w' e ∧ Cr d.length m.length e := fun w' hl e he => ⟨(hes e he).1.later hl, hcr e he⟩
  have lA := later_alloc w2 (.cells #[] 55)
  have hl2 := hl.later (l02.trans lA)
  have own0 : OwnE (w2.alloc (.cells #[] 55)) w2.heap.size (.slice (some ⟨w2.heap.size, 0, none⟩) 0 0) [] := OwnR.lit0 w2 _ (Nat.le_refl _)
  repeat' (first | (simp (disch := omega) only [push_cast, seval]) | refine iX ?_ ?_ <;> intros | refine aI (by omega) ?_ | refine dq ?_)
  refine vAppend_fresh Tryz.underlying33 ti55 rfl (by decide) hl2 (by unfold maxLen; omega) (by omega) ?_
  intro v3 w3 hz hp
  have h3 : RecS elC 4 w3 v3 l ∧ Later w2 w3 := by
    rcases Nat.eq_zero_or_pos l.length with h0 | h0
    · obtain ⟨rfl, rfl⟩ := hz h0
      have : l = [] := List.length_eq_zero_iff.1 h0
      rw [this]
      exact ⟨OwnR.s own0, lA⟩
    · obtain ⟨q1, q2⟩ := hp h0
      exact ⟨SlN.of_own q1, lA.trans q2⟩
  obtain ⟨hw3, l3⟩ := h3
  clear hz hp own0 hl2 lA
  obtain ⟨ow, cw, rfl, _⟩ := RecS.slice hw3
  have l03 := l02.trans l3
  have l13 := l2.trans l3
  have fs := FS w3 l13
  have fq := FQ w3 l13
  repeat' (first | (simp (disch := omega) only [push_cast, seval, fs, fq]) | refine iX ?_ ?_ <;> intros | refine aI (by omega) ?_ | refine dq ?_)
  refine (grun_c dv mv _ d m q l w3 (h.later l03) (hq.later l03) hT (hl.later l03) (FE w3 l03) (by omega)).mono ?_
  rintro _ w4 ⟨xv, xe, rfl, hx, l4⟩
  have l04 := l03.trans l4
  have l14 := l13.trans l4
  have fs := FS w4 l14
  have fq := FQ w4 l14
  repeat' (first | (simp (disch := omega) only [push_cast, seval, fs, fq]) | refine iX ?_ ?_ <;> intros | refine aI (by omega) ?_ | refine dq ?_)
  refine (dgrun_c dv mv _ d m q l w4 (h.later l04) (hq.later l04) hT hsg hk hev (hl.later l04) (FE w4 l04) (by omega)).mono ?_
  rintro _ w5 ⟨yv, ye, rfl, hy, l5⟩
  have l05 := l04.trans l5
  have l15 := l14.trans l5
  obtain ⟨rfl, xs, ys, hxs, hys, hxi, hyi, hxy⟩ := fin_one hx hy
  clear hx hy
  obtain ⟨ox, cx, rfl, _⟩ := RecS.slice hxs
  obtain ⟨oy, cy, rfl, _⟩ := RecS.slice hys
  have fs := FS w5 l15
  have fq := FQ w5 l15
  repeat' (first | (simp (disch := omega) only [push_cast, seval, fs, fq]) | refine iX ?_ ?_ <;> intros | refine aI (by omega) ?_ | refine dq ?_)
  refine (gfold_c m.length dv mv _ d m q l w5 (h.later l05) (hq.later l05) (hl.later l05) (FE w5 l05) hT.bl hbk (by omega)).mono ?_
  rintro _ w6 ⟨mv', me, rfl, hm, l6⟩
  have l06 := l05.trans l6
  have l16 := l15.trans l6
  have fs := FS w6 l16
  have fq := FQ w6 l16
  repeat' (first | (simp (disch := omega) only [push_cast, seval, fs, fq]) | refine iX ?_ ?_ <;> intros | refine aI (by omega) ?_ | refine dq ?_)
  refine (dgfold_c m.length dv mv _ d m q l w6 (h.later l06) (hq.later l06) (hl.later l06) (FE w6 l06) hT.bl hbk hk hev (by omega)).mono ?_
  rintro _ w7 ⟨nv, ne, rfl, hn, l7⟩
  have l07 := l06.trans l7
  obtain ⟨rfl, ms, ns, hms, hns, hmi, hni, hmn⟩ := fold_one hm hn
  clear hm hn
  obtain ⟨om, cm, rfl, _⟩ := RecS.slice hms
  obtain ⟨on, cn, rfl, _⟩ := RecS.slice hns
  have l57 := l6.trans l7
  have l47 := l5.trans l57
  repeat' (first | (simp (disch := omega) only [push_cast, seval]) | refine iX ?_ ?_ <;> intros | refine aI (by omega) ?_ | refine dq ?_)
  refine (gsame_c _ _ xs ys w7 (hxs.later l47) (hys.later l57) (fun z hz => (hxi z hz).later l47) (fun z hz => (hyi z hz).later l57)).mono ?_
  rintro _ w8 ⟨⟨t, rfl, ht⟩, l8⟩
  rw [ht.2 hxy]
  clear ht t
  have l08 := l07.trans l8
  repeat' (first | (simp (disch := omega) only [push_cast, seval]) | refine iX ?_ ?_ <;> intros | refine aI (by omega) ?_ | refine dq ?_)
  refine (dsame_c _ _ ms ns w8 (hms.later (l7.trans l8)) (hns.later l8) (fun z hz => (hmi z hz).later (l7.trans l8)) (fun z hz => (hni z hz).later l8)).mono ?_
  rintro _ w9 ⟨⟨t, rfl, ht⟩, l9⟩
  rw [ht.2 hmn]
  clear ht t
  have l09 := l08.trans l9
  have l39 : Later w3 w9 := l4.trans (l47.trans (l8.trans l9))
  repeat' (first | (simp (disch := omega) only [push_cast, seval]) | refine iX ?_ ?_ <;> intros | refine aI (by omega) ?_ | refine dq ?_)
  refine (dsame_c _ _ l l w9 (hl.later l09) (hw3.later l39) (fun e he => (hes e he).1.later l09) (fun e he => (hes e he).1.later l09)).mono ?_
  rintro _ w10 ⟨⟨t, rfl, ht⟩, l10⟩
  rw [ht.2 rfl]
  clear ht t
  have l410 := l47.trans (l8.trans (l9.trans l10))
  have l510 := l57.trans (l8.trans (l9.trans l10))
  repeat' (first | (simp (disch := omega) only [push_cast, seval]) | refine iX ?_ ?_ <;> intros | refine aI (by omega) ?_ | refine dq ?_)
  refine (alive25_c w10).mono ?_
  rintro _ w11 ⟨rfl, l11⟩
  have d1 : decide (xe = xe) = true := decide_eq_true rfl
  have d2 : decide (me = me) = true := decide_eq_true rfl
  repeat' (first | (simp (disch := omega) only [push_cast, seval, d1, d2]) | refine iX ?_ ?_ <;> intros | refine aI (by omega) ?_ | refine dq ?_)
  refine (gesame_c _ _ xs ys w11 (hxs.later (l410.trans l11)) (hys.later (l510.trans l11)) (fun z hz => (hxi z hz).later (l410.trans l11)) (fun z hz => (hyi z hz).later (l510.trans l11))).mono ?_
  rintro _ w12 ⟨⟨t, rfl, ht⟩, l12⟩
  rw [ht.2 hxy]
  repeat' (first | (simp (disch := omega) only [push_cast, seval]) | refine iX ?_ ?_ <;> intros | refine aI (by omega) ?_ | refine dq ?_)
  first | exact ⟨rfl, (l09.trans (l10.trans (l11.trans l12)))⟩ | exact (l09.trans (l10.trans (l11.trans l12)))
theorem own : ownKnob Tryz.prog.godebug = none := by kernel_rfl
theorem lifted (os : Os) (started : os.Started) (H : Type) (enc : TypeId × Value → H) :
    ReturnsInHanded {} Tryz.checked os 3 .any (Rows.groupTellsSpec.pre6 enc Tryz.prog Tryz.f3 Rows.groupTellsRow.domain false) (Rows.groupTellsSpec.post enc Tryz.prog Tryz.f3 false true false false) := by
  refine lifted_laterZ (C := Tryz.checked) own started (by kernel_rfl) Tryz.func3 hb3
    (ChangeSpec.witness6 (enc := enc) (C := Tryz.checked) false ⟨#[], #[.agg #[.slice none 0 0, .slice none 0 0], .agg #[.slice none 0 0, .int .i64 0, .int .i64 0, .int .i64 0, .slice none 0 0, .int .i64 0, .string ⟨#[]⟩, .string ⟨#[]⟩, .slice none 0 0, .slice none 0 0, .int .i64 0, .int .i64 0], .slice none 0 0], []⟩ 20 (by kernel_rfl) (by kernel_rfl) (by kernel_rfl) (by kernel_rfl))
    (by kernel_rfl) (list_all (by kernel_rfl)) (by kernel_rfl) Tryz.underlying4 rfl ?_ ?_
  · intro ds h
    have h : ds.length = 3 := h
    match ds, h with
    | [_, _, _], _ => rfl
  · intro W base args ds p hval0 hz0 hA0
    have hval : ∀ (j : Nat) t v, Tryz.f3.params[j]? = some t → args[j]? = some v → Value.okWide Tryz.prog W .any base t v := hval0
    have hz : ∀ (j : Nat) t d, Tryz.f3.params.toList[j]? = some t → ds[j]? = some d → Sz Tryz.prog t d := hz0
    have hA : DataW.TrodAll enc Tryz.prog W 0 (fun _ => true) true Tryz.f3.params.toList args.toList ds p := hA0
    rw [Tryz.params3] at hA hval hz
    obtain ⟨v0, vs0, d0, ds0, p0, q0, hargs, rfl, rfl, h0, r0⟩ := trodAll_cons hA
    obtain ⟨v1, vs1, d1, ds1, p1, q1, rfl, rfl, rfl, h1, r1⟩ := trodAll_cons r0
    obtain ⟨v2, vs2, d2, ds2, p2, q2, rfl, rfl, rfl, h2, r2⟩ := trodAll_cons r1
    obtain ⟨rfl, rfl, rfl⟩ := trodAll_nil r2
    obtain rfl : args = #[v0, v1, v2] := by cases args; simp_all
    obtain ⟨cs0, e0, w0⟩ := openZ_agg ⟨_, Tryz.underlying24⟩ (fun _ => z_schema) (hval 0 24 v0 rfl rfl) h0 (hz 0 _ _ rfl rfl)
    obtain ⟨cs1, e1, w1⟩ := openZ_agg ⟨_, Tryz.underlying32⟩ (fun _ => z_query) (hval 1 32 v1 rfl rfl) h1 (hz 1 _ _ rfl rfl)
    have w2 := openZ_sl (R := fun cs => ∃ (v : Value) (l : List El), cs = [v] ∧ RecS elC 4 W v l ∧ ∀ e ∈ l, RowQ W e) Tryz.underlying33 (fun _ => z_rows) (hval 2 33 v2 rfl rfl) h2 (hz 2 _ _ rfl rfl)
    obtain ⟨rv2, rl2, e2, rr2, re2⟩ := w2
    obtain rfl := (List.cons.inj e2).1
    obtain ⟨dv0, mv0, dl0, ml0, rfl, ok0⟩ := w0
    subst e0
    obtain ⟨m1, rfl, ok1⟩ := w1
    subst e1
    exact law_c dv0 mv0 v2 dl0 ml0 m1 rl2 W (ScIs.of_ok ok0) ok1 rr2 re2
theorem over : Rows.groupTellsRow.holds Tryz.pinned (OpenSpec.ofChange Rows.groupTellsSpec) :=
  OpenClaim.holds_of_wide 3 Tryz.f3 rfl rfl rfl rfl rfl rfl rfl ⟨rfl, rfl, rfl, rfl, rfl⟩ rfl rfl rfl rfl rfl (by kernel_rfl) Tryz.func3 (by kernel_rfl)
    (of_decide_eq_true (by kernel_rfl)) (by unfold Func.isWrapper; first | (rw [if_pos (by decide +kernel)]; kernel_rfl) | (rw [if_neg (by decide +kernel)]; exact ⟨rfl, rfl⟩))
    (fun os started H enc _ => lifted os started H enc)
/-- The statement. -/
theorem proved : Rows.GroupTellsSaid :=
  over
end Go.Proofs.YtnofalhkapmcnaaGreat.groupTells
