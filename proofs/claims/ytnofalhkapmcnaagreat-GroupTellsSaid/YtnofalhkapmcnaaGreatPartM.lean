/- What is told of rows: the document's Finish and Run. -/
import Derived.Test.YtnofalhkapmcnaaGreatPartL
set_option linter.all false
section
set_option linter.unusedSimpArgs false
namespace Go.Proofs.YtnofalhkapmcnaaGreat
open Go.Vc Go.Key Go.Cub Go.Fold Go.Stab Go.Bkt
set_option maxRecDepth 100000
set_option maxHeartbeats 8000000 in
theorem dgfinish_c (D : Nat) (dv mv v : Value) (d m : List ByteArray) (q : QD) (l : List El) (w : World) (h : ScIs w dv mv d m) (hq : q.Ok w) (hT : TyQ d m q) (hsg : ∀ h ∈ q.hl, -1 ≤ h.sign ∧ h.sign ≤ 1) (hl : RecS elC 4 w v l) (hes : ∀ e ∈ l, EIs w e ∧ Gd D m.length e.abs) (h63 : l.length ≤ 100000) :
    FnC Tryz.prog 25 #[scV dv mv, .agg (qdC q).toArray, v] w fun r w' => ∃ vv e, r = .tuple #[vv, .int .i64 e] ∧ FinR m q w' vv e (l.map El.abs) ∧ Later w w' := by
  have esc : scV dv mv = .agg #[dv, mv] := rfl
  rw [esc]
  obtain ⟨lo, lc, rfl, gl1, gl2⟩ := hl.slice
  obtain ⟨to, tc, htv, ht1, ht2⟩ := RecS.slice hq.tv
  refine enter25 _ _ _ ?_
  unfold B25
  have eca : (Value.agg (qdC q).toArray).cells = (qdC q).toArray := rfl
  have ecb : (Value.agg #[dv, mv]).cells = #[dv, mv] := rfl
  obtain ⟨l1, s1, F1⟩ := box2 w dv mv 24
  have B2 := Blk.new (w.alloc (.cells #[dv, mv] 24)) (qdC q).toArray 32
  have l2 := later_alloc (w.alloc (.cells #[dv, mv] 24)) (.cells (qdC q).toArray 32)
  rw [s1] at B2
  repeat' (first | (simp (disch := omega) only [push_cast, seval, eca, ecb, s1]) | refine iX ?_ ?_ <;> intros | refine aI (by omega) ?_ | fail)
  have l01 := l1.trans l2
  have FS : ∀ w', Later ((w.alloc (.cells #[dv, mv] 24)).alloc (.cells (qdC q).toArray 32)) w' → cellsAt w' ⟨w.heap.size, 0, none⟩ 2 = some [dv, mv] := fun w' hl => (F1 w' (l2.trans hl)).2.2
  clear F1 l1 l2 s1
  generalize (w.alloc (.cells #[dv, mv] 24)).alloc (.cells (qdC q).toArray 32) = w1 at *
  generalize hkq : w.heap.size = kf at *
  have h1 := h.later l01
  have q1 := hq.later l01
  have QB := fun w' (hl : Later w1 w') => qdLater B2 hl
  have FQ : ∀ w', Later w1 w' → cellsAt w' ⟨kf + 1, 0, none⟩ 12 = some (qdC q) := fun w' hl => Blk.cellsAt (l := qdC q) (QB w' hl)
  repeat' (first | (simp (disch := omega) only [push_cast, seval]) | refine iX ?_ ?_ <;> intros | refine aI (by omega) ?_ | refine dq ?_)
  refine (dfold_c D m.length _ l w1 (hl.later l01) (fun e he => ⟨(hes e he).1.later l01, (hes e he).2⟩) h63).mono ?_
  rintro _ w2 ⟨vv, er, rfl, hf, l2⟩
  have l02 := l01.trans l2
  rcases hf with ⟨rfl, rfl, hbad⟩ | ⟨rfl, es, ho, hF, hZ⟩
  · repeat' (first | (simp (disch := omega) only [push_cast, seval]) | refine iX ?_ ?_ <;> intros | refine aI (by omega) ?_ | refine dq ?_)
    exact ⟨_, _, rfl, .inl ⟨rfl, rfl, hbad⟩, l02⟩
  have hesl : es.length ≤ 100000 := by
    have h2 := F.len hF
    rw [List.length_map, List.length_map] at h2
    omega
  obtain ⟨eo, ec, rfl, ge1, ge2⟩ := RecS.slice ho
  repeat' (first | (simp (disch := omega) only [push_cast, seval]) | refine iX ?_ ?_ <;> intros | refine aI (by omega) ?_ | refine dq ?_)
  refine vc_loop W25_0 (fun p : Nat × Value => [(9, p.2), (10, .int .i64 (p.1 : Int))])
    (fun p w' => p.1 ≤ es.length ∧ Later w2 w' ∧ ∃ os, RecS gxC 3 w' p.2 os ∧ os.length ≤ p.1 ∧ Srt (rglt q.od) (os.map Gx.abs) ∧ Stb (rglt q.od) (grsL m q ((es.take p.1).map El.abs)) (os.map Gx.abs) ∧ ∀ z ∈ os, GxIs w' z ∧ z.k.length = q.tl.length) (fun p => es.length - p.1) (0, .slice none 0 0) (by decide) ?_ ?_ ?_
  · simp (disch := omega) only [push_cast, seval]
  · exact ⟨by omega, Later.refl _, [], RecS.nil _, by simp, srt_nil, Stb.refl _, by simp⟩
  rintro ⟨i, ov⟩ uu w3 ⟨hi, l3, os, hO, hosl, hsr, hst, hG⟩
  dsimp only at hi hO hosl hsr hst
  have l13 := l2.trans l3
  have l03 := l01.trans l13
  obtain ⟨oo, oc, rfl, go1, go2⟩ := RecS.slice hO
  by_cases hlt : i < es.length
  · obtain ⟨ad, rfl, f1⟩ := RecS.at elC_len (RecS.later ho l3) hlt
    have x0 := RecS.cell elC_len (RecS.later ho l3) hlt (j := 0) (x := .int .i64 (es[i]).t) rfl
    have x1 := RecS.cell elC_len (RecS.later ho l3) hlt (j := 1) (x := (es[i]).dv) rfl
    rw [addr_add_zero] at x0
    have hE := (hZ es[i] (List.getElem_mem _)).1.later l3
    have hgd := (hZ es[i] (List.getElem_mem _)).2
    have htk : grsL m q ((es.take (i + 1)).map El.abs) = grsL m q ((es.take i).map El.abs) ++ grsL m q [es[i].abs] := by rw [take_snoc es i hlt, List.map_append, grsL_app]; rfl
    generalize es[i] = x at *
    have hxa : x.a.length = m.length := hgd.rr.2.2
    obtain ⟨ox, cx, hxdv, hxs, gx1, gx2, gx3⟩ := StS.opn hE.1
    rw [hxdv] at x1
    have fq := FQ w3 l13
    have fs := FS w3 l13
    repeat' (first | (simp (disch := omega) only [push_cast, seval, fq, fs, f1]) | refine iX ?_ ?_ <;> intros | refine aI (by omega) ?_ | refine dq ?_)
    refine QFn.of hb61 (v := .bool (stQ m q.hl x.abs)) (fun w' hl' => dstays_c dv mv d m q x w' (h1.later (l13.trans hl')) (q1.later (l13.trans hl')) hT.hl hsg (hE.later hl') hxa) ?_
    repeat' (first | (simp (disch := omega) only [push_cast, seval]) | refine iX ?_ ?_ <;> intros | refine aI (by omega) ?_ | refine dq ?_)
    intro w4 l4
    cases hsy : stQ m q.hl x.abs with
    | false =>
      have hs : i + 1 ≤ es.length ∧ Later w2 w4 ∧ ∃ os', RecS gxC 3 w4 (.slice oo os.length oc) os' ∧ os'.length ≤ i + 1 ∧ Srt (rglt q.od) (os'.map Gx.abs) ∧ Stb (rglt q.od) (grsL m q ((es.take (i + 1)).map El.abs)) (os'.map Gx.abs) ∧ ∀ z ∈ os', GxIs w4 z ∧ z.k.length = q.tl.length :=
        ⟨by omega, l3.trans l4, os, hO.later l4, by omega, hsr, by rw [htk, grsL_skip m q hsy, List.append_nil]; exact hst, fun z hz => ⟨(hG z hz).1.later l4, (hG z hz).2⟩⟩
      repeat' (first | (simp (disch := omega) only [push_cast, seval]) | refine iX ?_ ?_ <;> intros | refine aI (by omega) ?_ | refine dq ?_)
      exact ⟨rfl, (i + 1, _), by simp (disch := omega) only [push_cast, seval], hs, by dsimp only; omega⟩
    | true =>
    have l14 := l13.trans l4
    have y0 := l4.cell x0
    have y1 := l4.cell x1
    repeat' (first | (simp (disch := omega) only [push_cast, seval]) | refine iX ?_ ?_ <;> intros | refine aI (by omega) ?_ | fail)
    refine drawn_k 12 ?_
    repeat' (first | (simp (disch := omega) only [push_cast, seval, y0, y1, addr_add_eq, Nat.zero_add]) | refine iX ?_ ?_ <;> intros | refine aI (by omega) ?_ | fail)
    refine nP_build (.agg #[.int .i64 x.t, .slice ox x.d.length cx, .slice none 0 0]) (fun w' => ?_) ?_
    · repeat' (first | (simp (disch := omega) only [push_cast, seval]) | refine iX ?_ ?_ <;> intros | refine aI (by omega) ?_ | fail)
    repeat' (first | (simp (disch := omega) only [push_cast, seval]) | refine iX ?_ ?_ <;> intros | refine aI (by omega) ?_ | fail)
    refine nA_of _ (PtV w4 61 #[.int .i64 0, .slice none 0 0, .slice none 0 0]) (stb_pt _ _ _ _) (fun w' hl => ?_) ?_
    · repeat' (first | (simp (disch := omega) only [push_cast, seval]) | refine iX ?_ ?_ <;> intros | refine aI (by omega) ?_ | fail)
      exact ⟨later_alloc _ _, w'.heap.size, rfl, hl.size, Blk.new _ _ _⟩
    repeat' (first | (simp (disch := omega) only [push_cast, seval]) | refine iX ?_ ?_ <;> intros | refine aI (by omega) ?_ | fail)
    rintro w5 l5 _ ⟨b, rfl, hb4, Bb⟩
    have hone : ∀ u ∈ [Value.int .i64 x.t, .slice ox x.d.length cx, .slice none 0 0], u.oneCell' = true := by
      intro u hu
      simp at hu
      rcases hu with rfl | rfl | rfl <;> rfl
    refine vStore_blk (l := [.int .i64 0, .slice none 0 0, .slice none 0 0]) (xs := [.int .i64 x.t, .slice ox x.d.length cx, .slice none 0 0]) Bb rfl rfl hone ?_
    intro w6 B6 c6
    have P6 : PT w4 w6 b w4.heap.size x.t (.slice ox x.d.length cx) [] := ⟨Chg.later l5 c6 (by intro j hj; rw [List.mem_singleton.1 hj]; omega), _, B6, own_nil _ _ _ _⟩
    clear B6 c6 Bb x0 x1 y0 y1 fq fs
    repeat' (first | (simp (disch := omega) only [push_cast, seval]) | refine iX ?_ ?_ <;> intros | refine aI (by omega) ?_ | refine dq ?_)
    refine vc_loop W25_1 (fun k : Nat => [(13, .int .i64 (k : Int))])
      (fun k w' => k ≤ q.tl.length ∧ PT w4 w' b w4.heap.size x.t (.slice ox x.d.length cx) ((q.tl.take k).map fun t => tmV m t x.abs)) (fun k => q.tl.length - k) 0 (by decide) ?_ ?_ ?_
    · simp (disch := omega) only [push_cast, seval]
    · exact ⟨by omega, by simpa using P6⟩
    clear P6
    rintro k uu3 w7 ⟨hk7, P7⟩
    have l47 := P7.later
    have l37 := l4.trans l47
    have l17 := l13.trans l37
    obtain ⟨a0, _⟩ := qdAt (QB w7 l17)
    rw [htv] at a0
    have f7 := cellsAt_later l37 _ f1
    by_cases hkl : k < q.tl.length
    · have htm := hT.tl q.tl[k] (List.getElem_mem _)
      have htq := RecS.later hq.tv (l01.trans l17)
      rw [htv] at htq
      obtain ⟨at_, rfl, ft⟩ := RecS.at tdC_len htq hkl
      have hks : (q.tl.take (k + 1)).map (fun t => tmV m t x.abs) = (q.tl.take k).map (fun t => tmV m t x.abs) ++ [tmV m q.tl[k] x.abs] := by rw [take_snoc q.tl k hkl, List.map_append]; rfl
      have hksl : ((q.tl.take k).map fun t => tmV m t x.abs).length = k := by simp; omega
      generalize q.tl[k] = t at *
      obtain ⟨_, kvc, Bc, hOc⟩ := P7
      obtain ⟨oc2, cc2, hkvc⟩ := hOc.slice
      subst hkvc
      have f2 : w7.cell? ⟨b, 2, none⟩ = some (.slice oc2 ((q.tl.take k).map fun t => tmV m t x.abs).length cc2) := Bc.cell 2
      have fs7 := FS w7 l17
      generalize ((q.tl.take k).map fun t => tmV m t x.abs) = ks at *
      repeat' (first | (simp (disch := omega) only [push_cast, seval, a0, addr_add_eq, Nat.zero_add]) | refine iX ?_ ?_ <;> intros | refine aI (by omega) ?_ | fail)
      refine drawn_k 14 ?_
      repeat' (first | (simp (disch := omega) only [push_cast, seval, a0, f2, ft, fs7, f7, addr_add_eq, Nat.zero_add]) | refine iX ?_ ?_ <;> intros | refine aI (by omega) ?_ | fail)
      refine NFn.fix hb62 (v := .int .i64 (tmV m t x.abs)) (fun w' hl => dterm_c dv mv d m t x w' (h1.later (l17.trans hl)) htm (hE.later (l37.trans hl)) hxa) ?_
      repeat' (first | (simp (disch := omega) only [push_cast, seval, a0, f2, ft, fs7, f7, addr_add_eq, Nat.zero_add]) | refine iX ?_ ?_ <;> intros | refine aI (by omega) ?_ | fail)
      refine nB_of _ (RowV w7 3 #[.int .i64 (tmV m t x.abs)] 1) (stb_row _ _ _ _) (fun w' hl => ?_) ?_
      · repeat' (first | (simp (disch := omega) only [push_cast, seval]) | refine iX ?_ ?_ <;> intros | refine aI (by omega) ?_ | fail)
        exact RowV.new hl _ _ _
      repeat' (first | (simp (disch := omega) only [push_cast, seval]) | refine iX ?_ ?_ <;> intros | refine aI (by omega) ?_ | fail)
      rintro w9 l9 _ ⟨kb, rfl, hkb, Bk⟩
      have hsl : SlN w9 1 (.slice (some ⟨kb, 0, none⟩) 1 1) 1 [.int .i64 (tmV m t x.abs)] := Sl.of_blk (xs := [.int .i64 (tmV m t x.abs)]) Bk rfl (by unfold maxLen; omega)
      have Bc9 := Bc.chg (Chg.of_later (ks := []) l9) (by simp)
      have hO9 := hOc.later l9
      have l49 := l47.trans l9
      refine vAppend_i Tryz.underlying59 ti3 rfl hO9 hsl (by have := hT.tln; omega) (by omega) l49.size ?_
      intro v' wa hoa hga _ _
      obtain ⟨q1', q2', q3'⟩ := PT.snoc l49 (by have := l5.size; omega) (Nat.le_refl _) Bc9 hO9 hoa hga
      obtain ⟨o8, c8, hv8⟩ := hoa.slice
      subst hv8
      repeat' (first | (simp (disch := omega) only [push_cast, seval, q1', q2', addr_add_eq, Nat.zero_add]) | refine iX ?_ ?_ <;> intros | refine aI (by omega) ?_ | refine dq ?_)
      refine ⟨rfl, k + 1, by simp (disch := omega) only [push_cast, seval], ⟨by omega, ?_⟩, by dsimp only; omega⟩
      rw [hks]
      exact q3'
    · have e0 : k = q.tl.length := by omega
      subst e0
      rw [List.take_length] at P7
      obtain ⟨_, kv, Bc, hOc⟩ := P7
      obtain ⟨z, hzd⟩ : ∃ z : Gx, z = ⟨x.t, x.d, q.tl.map fun t => tmV m t x.abs, .slice ox x.d.length cx, kv⟩ := ⟨_, rfl⟩
      have hzO : GxIs w7 z := by
        rw [hzd]
        refine ⟨?_, Sl.of_own hOc⟩
        have := Sl.later hE.1 l37
        rwa [hxdv] at this
      have hzabs : z.abs = grpG m q x.abs := by rw [hzd]; rfl
      have hzk : z.k.length = q.tl.length := by rw [hzd]; simp
      have Bz : Blk w7 b (gxC z).toArray 61 := by rw [hzd]; exact Bc
      clear hzd Bc hOc f7
      have hod := hT.od
      have hO7 := hO.later l37
      repeat' (first | (simp (disch := omega) only [push_cast, seval, a0, addr_add_eq, Nat.zero_add]) | refine iX ?_ ?_ <;> intros | refine aI (by omega) ?_ | refine dq ?_)
      refine vc_loop W25_2 (fun a : Nat => [(14, .int .i64 (a : Int))])
        (fun a w' => a ≤ os.length ∧ Later w7 w' ∧ ∀ y ∈ os.drop a, rglt q.od z.abs y.abs = true) (fun a => a) os.length (by decide) ?_ ?_ ?_
      · simp (disch := omega) only [push_cast, seval]
      · exact ⟨Nat.le_refl _, Later.refl _, by simp⟩
      rintro a uu4 w8 ⟨ha, l78, hB⟩
      have l18 := l17.trans l78
      have l38 := l37.trans l78
      have fin : ∀ w9, Later w8 w9 → (a = 0 ∨ ∃ T p, os.take a = T ++ [p] ∧ rglt q.od z.abs p.abs = false) → Srt (rglt q.od) ((os.take a ++ [z] ++ os.drop a).map Gx.abs) ∧ Stb (rglt q.od) (grsL m q ((es.take (i + 1)).map El.abs)) ((os.take a ++ [z] ++ os.drop a).map Gx.abs) := by
        intro w9 _ hp
        have hB' : ∀ s ∈ (os.drop a).map Gx.abs, rglt q.od z.abs s = true := fun s hs => by
          obtain ⟨y, hy, rfl⟩ := List.mem_map.1 hs
          exact hB y hy
        have hsplit : os.map Gx.abs = (os.take a).map Gx.abs ++ (os.drop a).map Gx.abs := by rw [← List.map_append, List.take_append_drop]
        have e1 : (os.take a ++ [z] ++ os.drop a).map Gx.abs = (os.take a).map Gx.abs ++ z.abs :: (os.drop a).map Gx.abs := by simp
        rw [e1]
        refine ⟨ins_srt (rglt_swo _) (by rw [← hsplit]; exact hsr) ?_ hB', ?_⟩
        · rcases hp with hp | ⟨T, p, h1, h2⟩
          · left; rw [hp]; rfl
          · right; exact ⟨T.map Gx.abs, p.abs, by rw [h1]; simp, h2⟩
        · rw [htk, grsL_keep m q hsy, ← hzabs]
          have h1 := ins_stb (rglt_swo q.od) (S1 := (os.take a).map Gx.abs) (S2 := (os.drop a).map Gx.abs) (e := z.abs) hB'
          rw [← hsplit] at h1
          exact ((hst.append (Stb.refl (lt := rglt q.od) [z.abs])).trans h1)
      by_cases ha0 : a = 0
      · have d0 : decide (0 < (a : Int)) = false := decide_eq_false (by omega)
        repeat' (first | (simp (disch := omega) only [push_cast, seval, d0]) | refine iX ?_ ?_ <;> intros | refine aI (by omega) ?_ | refine dq ?_)
        intro w9 l9
        obtain ⟨hsr9, hst9⟩ := fin w9 l9 (.inl ha0)
        have l79 := l78.trans l9
        have l39 := l37.trans l79
        have hO9 := hO.later l39
        have hpre := RecS.pre gxC_len hO9 (j := a) ha
        have hz9 := hzO.later l79
        have Bz9 := Bz.chg (Chg.of_later (ks := []) l79) (by simp)
        have fz9 : cellsAt w9 ⟨b, 0, none⟩ 3 = some [.int .i64 z.t, z.dv, z.kv] := Blk.cellsAt (l := gxC z) Bz9
        have lA := later_alloc w9 (.cells #[] 61)
        have own0 : OwnX (w9.alloc (.cells #[] 61)) w9.heap.size (.slice (some ⟨w9.heap.size, 0, none⟩) 0 0) [] := OwnR.lit0 w9 _ (Nat.le_refl _)
        have hsA := World.size_alloc w9 (.cells #[] 61)
        repeat' (first | (simp (disch := omega) only [push_cast, seval]) | refine iX ?_ ?_ <;> intros | refine aI (by omega) ?_ | refine dq ?_)
        refine vAppend_fresh Tryz.underlying36 ti61 rfl (by decide) (hpre.later lA) (by unfold maxLen; simp only [List.length_take]; omega) (by simp only [List.length_take]; omega) ?_
        intro v6 wa hz hp
        have h6 : OwnX wa w9.heap.size v6 (os.take a) ∧ Later w9 wa := by
          rcases Nat.eq_zero_or_pos a with h0 | h0
          · obtain ⟨rfl, rfl⟩ := hz (by simp only [List.length_take]; omega)
            subst h0
            exact ⟨own0, lA⟩
          · obtain ⟨q1, q2⟩ := hp (by simp only [List.length_take]; omega)
            exact ⟨OwnR.base q1 (by omega), lA.trans q2⟩
        obtain ⟨ho6, l6⟩ := h6
        clear hz hp own0 hpre
        have f86' := cellsAt_later l6 3 fz9
        have hx6 := hz9.later l6
        obtain ⟨o6, c6, hv6, _⟩ := RecS.slice (OwnR.s ho6)
        repeat' (first | (simp (disch := omega) only [push_cast, seval, f86']) | refine iX ?_ ?_ <;> intros | refine aI (by omega) ?_ | refine dq ?_)
        have l7 := later_alloc wa (.cells #[.int .i64 z.t, z.dv, z.kv] 61)
        have B7 := Blk.new wa #[.int .i64 z.t, z.dv, z.kv] 61
        refine vAppend_g (r := [z]) (ho6.later l7) (RecS.lit1 (gxC_len z) B7) (by intro y hy; rw [List.mem_singleton.1 hy]; exact hx6.later l7) (by simp only [List.length_take, List.length_cons, List.length_nil]; omega) (Nat.le_trans l6.size l7.size) ?_
        intro v8 wb ho8 hg8 _
        have l58 := (l6.trans l7).appended (ho6.later l7) (Nat.le_refl _) hg8
        have hO8 := hO9.later l58
        have hfrom := RecS.from gxC_len hO8 (j := a) (by omega)
        rw [show os.length - a = ((os.length : Int) - ((a : Nat) : Int)).toNat by omega] at hfrom
        repeat' (first | (simp (disch := omega) only [push_cast, seval]) | refine iX ?_ ?_ <;> intros | refine aI (by omega) ?_ | refine dq ?_)
        refine vAppend_g (r := os.drop a) ho8 hfrom (by intro y hy; exact (hG y (List.mem_of_mem_drop hy)).1.later (l39.trans l58)) (by simp only [List.length_append, List.length_take, List.length_drop, List.length_cons, List.length_nil]; omega) l58.size ?_
        intro v9 wc ho9 hg9 _
        have l59 := l58.appended ho8 (Nat.le_refl _) hg9
        have hZ9 : ∀ y ∈ os.take a ++ [z] ++ os.drop a, GxIs wc y ∧ y.k.length = q.tl.length := by
          intro y hy
          rcases List.mem_append.1 hy with hy | hy
          · rcases List.mem_append.1 hy with hy | hy
            · exact ⟨(hG y (List.mem_of_mem_take hy)).1.later (l39.trans l59), (hG y (List.mem_of_mem_take hy)).2⟩
            · rw [List.mem_singleton.1 hy]; exact ⟨hz9.later l59, hzk⟩
          · exact ⟨(hG y (List.mem_of_mem_drop hy)).1.later (l39.trans l59), (hG y (List.mem_of_mem_drop hy)).2⟩
        repeat' (first | (simp (disch := omega) only [push_cast, seval]) | refine iX ?_ ?_ <;> intros | refine aI (by omega) ?_ | refine dq ?_)
        exact ⟨rfl, (i + 1, v9), by simp (disch := omega) only [push_cast, seval], ⟨by dsimp only; omega, l3.trans (l39.trans l59), _, OwnR.s ho9, by dsimp only; simp only [List.length_append, List.length_take, List.length_drop, List.length_cons, List.length_nil]; omega, hsr9, hst9, hZ9⟩, by dsimp only; omega⟩
      have d0 : decide (0 < (a : Int)) = true := decide_eq_true (by omega)
      have hO8 := hO.later l38
      have ha1 : a - 1 < os.length := by omega
      obtain ⟨ag, rfl, fg⟩ := RecS.at gxC_len hO8 ha1
      have hta : os.take a = os.take (a - 1) ++ [os[a - 1]] := by
        have := take_snoc os (a - 1) ha1
        rwa [show a - 1 + 1 = a by omega] at this
      have hda : os.drop (a - 1) = os[a - 1] :: os.drop a := by
        have := List.drop_eq_getElem_cons ha1
        rwa [show a - 1 + 1 = a by omega] at this
      obtain ⟨hyi, hyk⟩ := hG os[a - 1] (List.getElem_mem _)
      generalize os[a - 1] = y at *
      have fq8 := FQ w8 l18
      have Bz8 := Bz.chg (Chg.of_later (ks := []) l78) (by simp)
      have fz8 : cellsAt w8 ⟨b, 0, none⟩ 3 = some (gxC z) := Blk.cellsAt (l := gxC z) Bz8
      have ta : ((a : Int) - 1).toNat = a - 1 := by omega
      repeat' (first | (simp (disch := omega) only [push_cast, seval, d0, fq8, fz8, ta, fg]) | refine iX ?_ ?_ <;> intros | refine aI (by omega) ?_ | refine dq ?_)
      refine QFn.of hb63 (v := .bool (rglt q.od z.abs y.abs)) (fun w' hl' => dahead_c q z y w' (hzO.later (l78.trans hl')) (hyi.later (l38.trans hl')) (by omega) (by omega)) ?_
      cases hzy : rglt q.od z.abs y.abs with
      | true =>
        repeat' (first | (simp (disch := omega) only [push_cast, seval]) | refine iX ?_ ?_ <;> intros | refine aI (by omega) ?_ | refine dq ?_)
        intro w9 l9
        repeat' (first | (simp (disch := omega) only [push_cast, seval]) | refine iX ?_ ?_ <;> intros | refine aI (by omega) ?_ | refine dq ?_)
        refine ⟨rfl, a - 1, by simp (disch := omega) only [push_cast, seval], ⟨by omega, l78.trans l9, fun u hu => ?_⟩, by dsimp only; omega⟩
        rw [hda] at hu
        rcases List.mem_cons.1 hu with rfl | hu
        · exact hzy
        · exact hB u hu
      | false =>
        repeat' (first | (simp (disch := omega) only [push_cast, seval]) | refine iX ?_ ?_ <;> intros | refine aI (by omega) ?_ | refine dq ?_)
        intro w9 l9
        obtain ⟨hsr9, hst9⟩ := fin w9 l9 (.inr ⟨_, y, hta, hzy⟩)
        have l79 := l78.trans l9
        have l39 := l37.trans l79
        have hO9 := hO.later l39
        have hpre := RecS.pre gxC_len hO9 (j := a) ha
        have hz9 := hzO.later l79
        have Bz9 := Bz.chg (Chg.of_later (ks := []) l79) (by simp)
        have fz9 : cellsAt w9 ⟨b, 0, none⟩ 3 = some [.int .i64 z.t, z.dv, z.kv] := Blk.cellsAt (l := gxC z) Bz9
        have lA := later_alloc w9 (.cells #[] 61)
        have own0 : OwnX (w9.alloc (.cells #[] 61)) w9.heap.size (.slice (some ⟨w9.heap.size, 0, none⟩) 0 0) [] := OwnR.lit0 w9 _ (Nat.le_refl _)
        have hsA := World.size_alloc w9 (.cells #[] 61)
        repeat' (first | (simp (disch := omega) only [push_cast, seval]) | refine iX ?_ ?_ <;> intros | refine aI (by omega) ?_ | refine dq ?_)
        refine vAppend_fresh Tryz.underlying36 ti61 rfl (by decide) (hpre.later lA) (by unfold maxLen; simp only [List.length_take]; omega) (by simp only [List.length_take]; omega) ?_
        intro v6 wa hz hp
        have h6 : OwnX wa w9.heap.size v6 (os.take a) ∧ Later w9 wa := by
          rcases Nat.eq_zero_or_pos a with h0 | h0
          · obtain ⟨rfl, rfl⟩ := hz (by simp only [List.length_take]; omega)
            subst h0
            exact ⟨own0, lA⟩
          · obtain ⟨q1, q2⟩ := hp (by simp only [List.length_take]; omega)
            exact ⟨OwnR.base q1 (by omega), lA.trans q2⟩
        obtain ⟨ho6, l6⟩ := h6
        clear hz hp own0 hpre
        have f86' := cellsAt_later l6 3 fz9
        have hx6 := hz9.later l6
        obtain ⟨o6, c6, hv6, _⟩ := RecS.slice (OwnR.s ho6)
        repeat' (first | (simp (disch := omega) only [push_cast, seval, f86']) | refine iX ?_ ?_ <;> intros | refine aI (by omega) ?_ | refine dq ?_)
        have l7 := later_alloc wa (.cells #[.int .i64 z.t, z.dv, z.kv] 61)
        have B7 := Blk.new wa #[.int .i64 z.t, z.dv, z.kv] 61
        refine vAppend_g (r := [z]) (ho6.later l7) (RecS.lit1 (gxC_len z) B7) (by intro y hy; rw [List.mem_singleton.1 hy]; exact hx6.later l7) (by simp only [List.length_take, List.length_cons, List.length_nil]; omega) (Nat.le_trans l6.size l7.size) ?_
        intro v8 wb ho8 hg8 _
        have l58 := (l6.trans l7).appended (ho6.later l7) (Nat.le_refl _) hg8
        have hO8 := hO9.later l58
        have hfrom := RecS.from gxC_len hO8 (j := a) (by omega)
        rw [show os.length - a = ((os.length : Int) - ((a : Nat) : Int)).toNat by omega] at hfrom
        repeat' (first | (simp (disch := omega) only [push_cast, seval]) | refine iX ?_ ?_ <;> intros | refine aI (by omega) ?_ | refine dq ?_)
        refine vAppend_g (r := os.drop a) ho8 hfrom (by intro y hy; exact (hG y (List.mem_of_mem_drop hy)).1.later (l39.trans l58)) (by simp only [List.length_append, List.length_take, List.length_drop, List.length_cons, List.length_nil]; omega) l58.size ?_
        intro v9 wc ho9 hg9 _
        have l59 := l58.appended ho8 (Nat.le_refl _) hg9
        have hZ9 : ∀ y ∈ os.take a ++ [z] ++ os.drop a, GxIs wc y ∧ y.k.length = q.tl.length := by
          intro y hy
          rcases List.mem_append.1 hy with hy | hy
          · rcases List.mem_append.1 hy with hy | hy
            · exact ⟨(hG y (List.mem_of_mem_take hy)).1.later (l39.trans l59), (hG y (List.mem_of_mem_take hy)).2⟩
            · rw [List.mem_singleton.1 hy]; exact ⟨hz9.later l59, hzk⟩
          · exact ⟨(hG y (List.mem_of_mem_drop hy)).1.later (l39.trans l59), (hG y (List.mem_of_mem_drop hy)).2⟩
        repeat' (first | (simp (disch := omega) only [push_cast, seval]) | refine iX ?_ ?_ <;> intros | refine aI (by omega) ?_ | refine dq ?_)
        exact ⟨rfl, (i + 1, v9), by simp (disch := omega) only [push_cast, seval], ⟨by dsimp only; omega, l3.trans (l39.trans l59), _, OwnR.s ho9, by dsimp only; simp only [List.length_append, List.length_take, List.length_drop, List.length_cons, List.length_nil]; omega, hsr9, hst9, hZ9⟩, by dsimp only; omega⟩
  · have e0 : i = es.length := by omega
    subst e0
    rw [List.take_length] at hst
    obtain ⟨_, _, _, _, _, _, _, _, _, _, _, a8⟩ := qdAt (QB w3 l13)
    have hfl : ∀ (vv : Value) (gs : List Gx), RecS gxC 3 w3 vv gs → (∀ z ∈ gs, GxIs w3 z) → (∃ s, Srt (rglt q.od) s ∧ Stb (rglt q.od) (grsL m q (es.map El.abs)) s ∧ gs.map Gx.abs = if 0 < q.lm then s.take q.lm.toNat else s) → ∃ vv' e, Value.tuple #[vv, .int .i64 0] = .tuple #[vv', .int .i64 e] ∧ FinR m q w3 vv' e (l.map El.abs) ∧ Later w w3 :=
      fun vv gs h1 h2 h3 => ⟨vv, 0, rfl, .inr ⟨rfl, gs, h1, h2, _, hF, h3⟩, l03⟩
    have hI : ∀ z ∈ os, GxIs w3 z := fun z hz => (hG z hz).1
    have hlm := hT.lm
    by_cases hl0 : 0 < q.lm
    · have e2 : decide (0 < q.lm) = true := decide_eq_true hl0
      by_cases hmn : q.lm < (os.length : Int)
      · have e3 : decide (q.lm < (os.length : Int)) = true := decide_eq_true hmn
        have hR' := RecS.pre gxC_len hO (j := q.lm.toNat) (by omega)
        repeat' (first | (simp (disch := omega) only [push_cast, seval, a8, e2, e3, addr_add_eq, Nat.zero_add]) | refine iX ?_ ?_ <;> intros | refine aI (by omega) ?_ | refine dq ?_)
        exact hfl _ (os.take q.lm.toNat) hR' (fun z hz => hI z (List.mem_of_mem_take hz)) ⟨_, hsr, hst, by rw [if_pos hl0, List.map_take]⟩
      · have e3 : decide (q.lm < (os.length : Int)) = false := decide_eq_false hmn
        repeat' (first | (simp (disch := omega) only [push_cast, seval, a8, e2, e3, addr_add_eq, Nat.zero_add]) | refine iX ?_ ?_ <;> intros | refine aI (by omega) ?_ | refine dq ?_)
        exact hfl _ os hO hI ⟨_, hsr, hst, by rw [if_pos hl0, List.take_of_length_le (by rw [List.length_map]; omega)]⟩
    · have e2 : decide (0 < q.lm) = false := decide_eq_false hl0
      repeat' (first | (simp (disch := omega) only [push_cast, seval, a8, e2, addr_add_eq, Nat.zero_add]) | refine iX ?_ ?_ <;> intros | refine aI (by omega) ?_ | refine dq ?_)
      exact hfl _ os hO hI ⟨_, hsr, hst, (if_neg hl0).symm⟩
set_option maxHeartbeats 1000000 in
theorem dgrun_c (dv mv v : Value) (d m : List ByteArray) (q : QD) (l : List El) (w : World) (h : ScIs w dv mv d m) (hq : q.Ok w) (hT : TyQ d m q) (hsg : ∀ h ∈ q.hl, -1 ≤ h.sign ∧ h.sign ≤ 1) (hk : TkOk q.wh) (hev : q.ev = 0 ∨ Rt q.ev) (hl : RecS elC 4 w v l) (hes : ∀ e ∈ l, EIs w e ∧ Cr d.length m.length e) (h63 : l.length ≤ 100000) :
    FnC Tryz.prog 8 #[scV dv mv, .agg (qdC q).toArray, v] w fun r w' => ∃ vv e, r = .tuple #[vv, .int .i64 e] ∧ FinR m q w' vv e (grpL d q (l.map El.abs)) ∧ Later w w' := by
  have esc : scV dv mv = .agg #[dv, mv] := rfl
  rw [esc]
  obtain ⟨lo, lc, rfl, gl1, gl2⟩ := hl.slice
  refine enter8 _ _ _ ?_
  unfold B8
  have eca : (Value.agg (qdC q).toArray).cells = (qdC q).toArray := rfl
  have ecb : (Value.agg #[dv, mv]).cells = #[dv, mv] := rfl
  obtain ⟨l1, s1, F1⟩ := box2 w dv mv 24
  have B2 := Blk.new (w.alloc (.cells #[dv, mv] 24)) (qdC q).toArray 32
  have l2 := later_alloc (w.alloc (.cells #[dv, mv] 24)) (.cells (qdC q).toArray 32)
  rw [s1] at B2
  repeat' (first | (simp (disch := omega) only [push_cast, seval, eca, ecb, s1]) | refine iX ?_ ?_ <;> intros | refine aI (by omega) ?_ | fail)
  have l01 := l1.trans l2
  have FS : ∀ w', Later ((w.alloc (.cells #[dv, mv] 24)).alloc (.cells (qdC q).toArray 32)) w' → cellsAt w' ⟨w.heap.size, 0, none⟩ 2 = some [dv, mv] := fun w' hl => (F1 w' (l2.trans hl)).2.2
  clear F1 l1 l2 s1
  generalize (w.alloc (.cells #[dv, mv] 24)).alloc (.cells (qdC q).toArray 32) = w1 at *
  generalize hkq : w.heap.size = kf at *
  have QB := fun w' (hl : Later w1 w') => qdLater B2 hl
  have fq : cellsAt w1 ⟨kf + 1, 0, none⟩ 12 = some (qdC q) := Blk.cellsAt (l := qdC q) B2
  have fs := FS w1 (Later.refl _)
  repeat' (first | (simp (disch := omega) only [push_cast, seval, fq, fs]) | refine iX ?_ ?_ <;> intros | refine aI (by omega) ?_ | refine dq ?_)
  refine (dgfold_c m.length dv mv _ d m q l w1 (h.later l01) (hq.later l01) (hl.later l01) (fun e he => ⟨(hes e he).1.later l01, (hes e he).2⟩) hT.bl (by have := hT.bln; omega) hk hev h63).mono ?_
  rintro _ w2 ⟨vv, er, rfl, hf, l2⟩
  have l02 := l01.trans l2
  rcases hf with ⟨rfl, rfl, hbad⟩ | ⟨rfl, es, ho, hF, hZ⟩
  · repeat' (first | (simp (disch := omega) only [push_cast, seval]) | refine iX ?_ ?_ <;> intros | refine aI (by omega) ?_ | refine dq ?_)
    exact ⟨_, _, rfl, .inl ⟨rfl, rfl, hbad⟩, l02⟩
  have hesl : es.length ≤ 100000 := by
    have h1 := hF.len
    have h2 := grpL_len d q (l.map El.abs)
    rw [List.length_map] at h1 h2
    omega
  obtain ⟨eo, ec, rfl, ge1, ge2⟩ := RecS.slice ho
  have fq2 : cellsAt w2 ⟨kf + 1, 0, none⟩ 12 = some (qdC q) := Blk.cellsAt (l := qdC q) (QB w2 l2)
  have fs2 := FS w2 l2
  repeat' (first | (simp (disch := omega) only [push_cast, seval, fq2, fs2]) | refine iX ?_ ?_ <;> intros | refine aI (by omega) ?_ | refine dq ?_)
  refine (dgfinish_c q.bl.length dv mv _ d m q es w2 (h.later l02) (hq.later l02) hT hsg ho (fun e he => hZ e he) hesl).mono ?_
  rintro _ w3 ⟨vv, er, rfl, hf, l3⟩
  repeat' (first | (simp (disch := omega) only [push_cast, seval]) | refine iX ?_ ?_ <;> intros | refine aI (by omega) ?_ | refine dq ?_)
  exact ⟨_, _, rfl, hf.of_fold hF, l02.trans l3⟩
end Go.Proofs.YtnofalhkapmcnaaGreat
end
section
set_option linter.unusedSimpArgs false
namespace Go.Proofs.YtnofalhkapmcnaaGreat
open Go.Vc Go.Key Go.Cub Go.Fold Go.Stab
set_option maxRecDepth 100000
theorem sequal_c (u v : Value) (a b : List ByteArray) (w : World) (hu : StS w u a) (hv : StS w v b) : FnC Tryz.prog 36 #[u, v] w fun r w' => r = .bool (decide (a = b)) ∧ Later w w' := by
  obtain ⟨oa, ca, rfl, g1, g2, hu, g3⟩ := hu.openM
  obtain ⟨ob, cb, rfl, k1, k2, hv, k3⟩ := hv.openM
  refine enter36 _ _ ?_
  unfold B36
  by_cases hlen : a.length = b.length
  · repeat' (first | (simp (disch := omega) only [push_cast, seval]) | refine iX ?_ ?_ <;> intros | refine aI (by omega) ?_ | refine dq ?_)
    refine vc_loop W36_0 (fun i : Nat => [(4, .bool false), (13, .int .i64 (i : Int))])
      (fun i w' => i ≤ a.length ∧ Later w w' ∧ a.take i = b.take i) (fun i => a.length - i) 0 (by decide) ?_ ?_ ?_
    · simp (disch := omega) only [push_cast, seval]
    · exact ⟨by omega, Later.refl _, by simp⟩
    rintro i uu w0 ⟨hi, hl, he⟩
    by_cases ha : i < a.length
    · have hb : i < b.length := by omega
      obtain ⟨aa, rfl⟩ := hu.some (show 0 < a.length by omega)
      obtain ⟨bb, rfl⟩ := hv.some (show 0 < b.length by omega)
      have c1 := StS.atS (hu.later hl) ha
      have c2 := StS.atS (hv.later hl) hb
      by_cases hab : a[i] = b[i]
      · have d1 : decide (a[i] = b[i]) = true := decide_eq_true hab
        repeat' (first | (simp (disch := omega) only [push_cast, seval, c1, c2, d1]) | refine iX ?_ ?_ <;> intros | refine aI (by omega) ?_ | refine dq ?_)
        intro w1 hl1
        repeat' (first | (simp (disch := omega) only [push_cast, seval]) | refine iX ?_ ?_ <;> intros | refine aI (by omega) ?_ | refine dq ?_)
        refine ⟨rfl, i + 1, by simp (disch := omega) only [push_cast, seval], ⟨by omega, hl.trans hl1, ?_⟩, by dsimp only; omega⟩
        rw [take_snoc a i ha, take_snoc b i hb, he, hab]
      · have hne : a ≠ b := fun e => by subst e; exact hab rfl
        have d1 : decide (a[i] = b[i]) = false := decide_eq_false hab
        repeat' (first | (simp (disch := omega) only [push_cast, seval, c1, c2, d1]) | refine iX ?_ ?_ <;> intros | refine aI (by omega) ?_ | refine dq ?_)
        intro w1 hl1
        repeat' (first | (simp (disch := omega) only [push_cast, seval]) | refine iX ?_ ?_ <;> intros | refine aI (by omega) ?_ | refine dq ?_)
        simp [hne, hl.trans hl1]
    · have e : i = a.length := by omega
      subst e
      rw [List.take_length, hlen, List.take_length] at he
      repeat' (first | (simp (disch := omega) only [push_cast, seval]) | refine iX ?_ ?_ <;> intros | refine aI (by omega) ?_ | refine dq ?_)
      simp [he, hl]
  · have hne : a ≠ b := fun e => by subst e; exact hlen rfl
    repeat' (first | (simp (disch := omega) only [push_cast, seval]) | refine iX ?_ ?_ <;> intros | refine aI (by omega) ?_ | refine dq ?_)
    simp [hne, Later.refl]
theorem iequal_c (u v : Value) (a b : List Int) (w : World) (hu : Sl w u (a.map i64v)) (hv : Sl w v (b.map i64v)) : FnC Tryz.prog 37 #[u, v] w fun r w' => r = .bool (decide (a = b)) ∧ Later w w' := by
  obtain ⟨oa, ca, rfl, g1, g2, hu, g3⟩ := hu.openM
  obtain ⟨ob, cb, rfl, k1, k2, hv, k3⟩ := hv.openM
  refine enter37 _ _ ?_
  unfold B37
  by_cases hlen : a.length = b.length
  · repeat' (first | (simp (disch := omega) only [push_cast, seval]) | refine iX ?_ ?_ <;> intros | refine aI (by omega) ?_ | refine dq ?_)
    refine vc_loop W37_0 (fun i : Nat => [(4, .bool false), (13, .int .i64 (i : Int))])
      (fun i w' => i ≤ a.length ∧ Later w w' ∧ a.take i = b.take i) (fun i => a.length - i) 0 (by decide) ?_ ?_ ?_
    · simp (disch := omega) only [push_cast, seval]
    · exact ⟨by omega, Later.refl _, by simp⟩
    rintro i uu w0 ⟨hi, hl, he⟩
    by_cases ha : i < a.length
    · have hb : i < b.length := by omega
      obtain ⟨aa, rfl⟩ := hu.some (show 0 < a.length by omega)
      obtain ⟨bb, rfl⟩ := hv.some (show 0 < b.length by omega)
      have c1 := (hu.later hl).atI ha
      have c2 := (hv.later hl).atI hb
      by_cases hab : a[i] = b[i]
      · repeat' (first | (simp (disch := omega) only [push_cast, seval, c1, c2, hab]) | refine iX ?_ ?_ <;> intros | refine aI (by omega) ?_ | refine dq ?_)
        intro w1 hl1
        repeat' (first | (simp (disch := omega) only [push_cast, seval]) | refine iX ?_ ?_ <;> intros | refine aI (by omega) ?_ | refine dq ?_)
        refine ⟨rfl, i + 1, by simp (disch := omega) only [push_cast, seval], ⟨by omega, hl.trans hl1, ?_⟩, by dsimp only; omega⟩
        rw [take_snoc a i ha, take_snoc b i hb, he, hab]
      · have hne : a ≠ b := fun e => by subst e; exact hab rfl
        repeat' (first | (simp (disch := omega) only [push_cast, seval, c1, c2, hab]) | refine iX ?_ ?_ <;> intros | refine aI (by omega) ?_ | refine dq ?_)
        intro w1 hl1
        repeat' (first | (simp (disch := omega) only [push_cast, seval]) | refine iX ?_ ?_ <;> intros | refine aI (by omega) ?_ | refine dq ?_)
        simp [hne, hl.trans hl1]
    · have e : i = a.length := by omega
      subst e
      rw [List.take_length, hlen, List.take_length] at he
      repeat' (first | (simp (disch := omega) only [push_cast, seval]) | refine iX ?_ ?_ <;> intros | refine aI (by omega) ?_ | refine dq ?_)
      simp [he, hl]
  · have hne : a ≠ b := fun e => by subst e; exact hlen rfl
    repeat' (first | (simp (disch := omega) only [push_cast, seval]) | refine iX ?_ ?_ <;> intros | refine aI (by omega) ?_ | refine dq ?_)
    simp [hne, Later.refl]
theorem gsame1_c (x y : Gx) (w : World) (hx : GxIs w x) (hy : GxIs w y) : FnC Tryz.prog 35 #[.agg (gxC x).toArray, .agg (gxC y).toArray] w fun r w' => r = .bool (decide (x.abs = y.abs)) ∧ Later w w' := by
  refine enter35 _ _ ?_
  unfold B35
  have eca : (Value.agg (gxC x).toArray).cells = (gxC x).toArray := rfl
  have ecb : (Value.agg (gxC y).toArray).cells = (gxC y).toArray := rfl
  have l1 := later_alloc w (.cells (gxC x).toArray 61)
  have B1 := Blk.new w (gxC x).toArray 61
  have s1 : (w.alloc (.cells (gxC x).toArray 61)).heap.size = w.heap.size + 1 := World.size_alloc w _
  repeat' (first | (simp (disch := omega) only [push_cast, seval, eca, s1]) | refine iX ?_ ?_ <;> intros | refine aI (by omega) ?_ | fail)
  generalize w.alloc (.cells (gxC x).toArray 61) = w1 at *
  have l2 := later_alloc w1 (.cells (gxC y).toArray 61)
  have B2 := Blk.new w1 (gxC y).toArray 61
  rw [s1] at B2
  repeat' (first | (simp (disch := omega) only [push_cast, seval, ecb, s1]) | refine iX ?_ ?_ <;> intros | refine aI (by omega) ?_ | fail)
  generalize w1.alloc (.cells (gxC y).toArray 61) = w2 at *
  have l02 := l1.trans l2
  generalize hkf : w.heap.size = kf at *
  have B12 := B1.chg (Chg.of_later (ks := []) l2) (by simp)
  have x0 : w2.cell? ⟨kf, 0, none⟩ = some (.int .i64 x.t) := B12.cell 0
  have x1 : w2.cell? ⟨kf, 1, none⟩ = some x.dv := B12.cell 1
  have x2 : w2.cell? ⟨kf, 2, none⟩ = some x.kv := B12.cell 2
  have y0 : w2.cell? ⟨kf + 1, 0, none⟩ = some (.int .i64 y.t) := B2.cell 0
  have y1 : w2.cell? ⟨kf + 1, 1, none⟩ = some y.dv := B2.cell 1
  have y2 : w2.cell? ⟨kf + 1, 2, none⟩ = some y.kv := B2.cell 2
  have hiff := gabs_iff x y
  by_cases e1 : x.t = y.t
  case neg =>
    have d1 : decide (x.t = y.t) = false := decide_eq_false e1
    rw [decide_eq_false (fun h => e1 (hiff.2 h).2.2)]
    repeat' (first | (simp (disch := omega) only [push_cast, seval, x0, y0, d1, addr_add_eq, Nat.zero_add]) | refine iX ?_ ?_ <;> intros | refine aI (by omega) ?_ | refine dq ?_)
    first | exact ⟨rfl, l02⟩ | exact l02
  have d1 : decide (x.t = y.t) = true := decide_eq_true e1
  repeat' (first | (simp (disch := omega) only [push_cast, seval, x0, y0, x1, y1, d1, addr_add_eq, Nat.zero_add]) | refine iX ?_ ?_ <;> intros | refine aI (by omega) ?_ | refine dq ?_)
  refine (sequal_c _ _ x.d y.d w2 (hx.later l02).1 (hy.later l02).1).mono ?_
  rintro _ w3 ⟨rfl, l3⟩
  by_cases e2 : x.d = y.d
  case neg =>
    rw [decide_eq_false e2, decide_eq_false (fun h => e2 (hiff.2 h).1)]
    repeat' (first | (simp (disch := omega) only [push_cast, seval]) | refine iX ?_ ?_ <;> intros | refine aI (by omega) ?_ | refine dq ?_)
    first | exact ⟨rfl, (l02.trans l3)⟩ | exact (l02.trans l3)
  rw [decide_eq_true e2]
  have x2 := l3.cell x2
  have y2 := l3.cell y2
  repeat' (first | (simp (disch := omega) only [push_cast, seval, x2, y2, addr_add_eq, Nat.zero_add]) | refine iX ?_ ?_ <;> intros | refine aI (by omega) ?_ | refine dq ?_)
  refine (iequal_c _ _ x.k y.k w3 (hx.later (l02.trans l3)).2 (hy.later (l02.trans l3)).2).mono ?_
  rintro _ w4 ⟨rfl, l4⟩
  have e : decide (x.abs = y.abs) = decide (x.k = y.k) := decide_eq_decide.2 ⟨fun h => (hiff.2 h).2.1, fun h => hiff.1 ⟨e2, h, e1⟩⟩
  rw [e]
  repeat' (first | (simp (disch := omega) only [push_cast, seval]) | refine iX ?_ ?_ <;> intros | refine aI (by omega) ?_ | refine dq ?_)
  first | exact ⟨rfl, (l02.trans (l3.trans l4))⟩ | exact (l02.trans (l3.trans l4))
theorem gequalFunc_c (u v : Value) (a b : List Gx) (w : World) (hu : RecS gxC 3 w u a) (hv : RecS gxC 3 w v b) (ha : ∀ e ∈ a, GxIs w e) (hb : ∀ e ∈ b, GxIs w e) : FnC Tryz.prog 34 #[u, v, .func (.func 35) #[] #[]] w fun r w' => (∃ t, r = .bool t ∧ (t = true ↔ a.map Gx.abs = b.map Gx.abs)) ∧ Later w w' := by
  obtain ⟨oa, ca, rfl, g1, g2⟩ := hu.slice
  obtain ⟨ob, cb, rfl, k1, k2⟩ := hv.slice
  refine enter34 _ _ _ ?_
  unfold B34
  by_cases hlen : a.length = b.length
  · repeat' (first | (simp (disch := omega) only [push_cast, seval]) | refine iX ?_ ?_ <;> intros | refine aI (by omega) ?_ | refine dq ?_)
    refine vc_loop W34_0 (fun i : Nat => [(6, .bool false), (17, .int .i64 (i : Int))])
      (fun i w' => i ≤ a.length ∧ Later w w' ∧ (a.take i).map Gx.abs = (b.take i).map Gx.abs) (fun i => a.length - i) 0 (by decide) ?_ ?_ ?_
    · simp (disch := omega) only [push_cast, seval]
    · exact ⟨by omega, Later.refl _, by simp⟩
    rintro i uu w0 ⟨hi, hl, he⟩
    by_cases hia : i < a.length
    · have hib : i < b.length := by omega
      obtain ⟨aa, rfl, c1⟩ := RecS.at gxC_len (hu.later hl) hia
      obtain ⟨bb, rfl, c2⟩ := RecS.at gxC_len (hv.later hl) hib
      have h1 := (ha _ (List.getElem_mem hia)).later hl
      have h2 := (hb _ (List.getElem_mem hib)).later hl
      have hne : ¬ a[i].abs = b[i].abs → a.map Gx.abs ≠ b.map Gx.abs := fun hab e => by
          have := congrArg (fun l => l[i]?) e
          simp [hia, hib] at this
          exact hab this
      have hta : (a.take (i + 1)).map Gx.abs = (a.take i).map Gx.abs ++ [a[i].abs] := by rw [take_snoc a i hia, List.map_append]; rfl
      have htb : (b.take (i + 1)).map Gx.abs = (b.take i).map Gx.abs ++ [b[i].abs] := by rw [take_snoc b i hib, List.map_append]; rfl
      generalize a[i] = x at *
      generalize b[i] = y at *
      repeat' (first | (simp (disch := omega) only [push_cast, seval, c1]) | refine iX ?_ ?_ <;> intros | refine aI (by omega) ?_ | refine dq ?_)
      refine vStore_new rfl rfl (by simpa using gxC_one h1) ?_
      have l1 := later_alloc w0 (.cells (gxC x).toArray 61)
      have B1 := Blk.new w0 (gxC x).toArray 61
      generalize w0.alloc (.cells (gxC x).toArray 61) = w1 at *
      generalize w0.heap.size = n1 at *
      have c2' := cellsAt_later l1 3 c2
      repeat' (first | (simp (disch := omega) only [push_cast, seval, c2']) | refine iX ?_ ?_ <;> intros | refine aI (by omega) ?_ | refine dq ?_)
      refine vStore_new rfl rfl (by simpa using gxC_one h2) ?_
      have l2 := later_alloc w1 (.cells (gxC y).toArray 61)
      have B2 := Blk.new w1 (gxC y).toArray 61
      generalize w1.alloc (.cells (gxC y).toArray 61) = w2 at *
      generalize w1.heap.size = n2 at *
      have f1 : cellsAt w2 ⟨n1, 0, none⟩ 3 = some (gxC x) := cellsAt_later l2 3 (Blk.cellsAt (l := gxC x) B1)
      have f2 : cellsAt w2 ⟨n2, 0, none⟩ 3 = some (gxC y) := Blk.cellsAt (l := gxC y) B2
      repeat' (first | (simp (disch := omega) only [push_cast, seval, f1, f2]) | refine iX ?_ ?_ <;> intros | refine aI (by omega) ?_ | refine dq ?_)
      refine (gsame1_c _ _ w2 (h1.later (l1.trans l2)) (h2.later (l1.trans l2))).mono ?_
      rintro _ w3 ⟨rfl, hl3⟩
      by_cases hab : x.abs = y.abs
      · rw [decide_eq_true hab]
        repeat' (first | (simp (disch := omega) only [push_cast, seval]) | refine iX ?_ ?_ <;> intros | refine aI (by omega) ?_ | refine dq ?_)
        refine ⟨rfl, i + 1, by simp (disch := omega) only [push_cast, seval], ⟨by omega, ((hl.trans l1).trans l2).trans hl3, ?_⟩, by simp; omega⟩
        rw [hta, htb, he, hab]
      · rw [decide_eq_false hab]
        repeat' (first | (simp (disch := omega) only [push_cast, seval]) | refine iX ?_ ?_ <;> intros | refine aI (by omega) ?_ | refine dq ?_)
        exact ⟨⟨false, rfl, by simp [hne hab]⟩, ((hl.trans l1).trans l2).trans hl3⟩
    · have e : i = a.length := by omega
      subst e
      rw [List.take_length, hlen, List.take_length] at he
      repeat' (first | (simp (disch := omega) only [push_cast, seval]) | refine iX ?_ ?_ <;> intros | refine aI (by omega) ?_ | refine dq ?_)
      exact ⟨⟨true, rfl, by simp [he]⟩, hl⟩
  · have hne : a.map Gx.abs ≠ b.map Gx.abs := fun e => by
      have := congrArg List.length e
      simp at this
      exact hlen this
    repeat' (first | (simp (disch := omega) only [push_cast, seval]) | refine iX ?_ ?_ <;> intros | refine aI (by omega) ?_ | refine dq ?_)
    exact ⟨⟨false, rfl, by simp [hne]⟩, Later.refl _⟩
theorem gesame_c (u v : Value) (a b : List Gx) (w : World) (hu : RecS gxC 3 w u a) (hv : RecS gxC 3 w v b) (ha : ∀ e ∈ a, GxIs w e) (hb : ∀ e ∈ b, GxIs w e) : FnC Tryz.prog 13 #[u, v] w fun r w' => (∃ t, r = .bool t ∧ (t = true ↔ a.map Gx.abs = b.map Gx.abs)) ∧ Later w w' := by
  obtain ⟨oa, ca, rfl, g1, g2⟩ := hu.slice
  obtain ⟨ob, cb, rfl, k1, k2⟩ := hv.slice
  refine enter13 _ _ ?_
  unfold B13
  repeat' (first | (simp (disch := omega) only [push_cast, seval]) | refine iX ?_ ?_ <;> intros | refine aI (by omega) ?_ | refine dq ?_)
  refine (gequalFunc_c _ _ a b w hu hv ha hb).mono ?_
  rintro _ w1 ⟨⟨t, rfl, ht⟩, hl⟩
  repeat' (first | (simp (disch := omega) only [push_cast, seval]) | refine iX ?_ ?_ <;> intros | refine aI (by omega) ?_ | refine dq ?_)
  exact ⟨⟨t, rfl, ht⟩, hl⟩
end Go.Proofs.YtnofalhkapmcnaaGreat
end
section
set_option linter.unusedSimpArgs false
namespace Go.Proofs.YtnofalhkapmcnaaGreat
open Go.Vc Go.Key Go.Stab
set_option maxRecDepth 100000
theorem one_c (x y : El) (w : World) (hx : EIs w x) (hy : EIs w y) : FnC Tryz.prog 33 #[elV x, elV y] w fun r w' => r = .bool (decide (ecmp x y = 0 ∧ x.a = y.a ∧ x.n = y.n)) ∧ Later w w' := by
  unfold elV
  refine enter33 _ _ ?_
  unfold B33
  have eca : (Value.agg #[.int .i64 x.t, x.dv, .int .i64 x.n, x.av]).cells = #[.int .i64 x.t, x.dv, .int .i64 x.n, x.av] := rfl
  have ecb : (Value.agg #[.int .i64 y.t, y.dv, .int .i64 y.n, y.av]).cells = #[.int .i64 y.t, y.dv, .int .i64 y.n, y.av] := rfl
  have s1 : (w.alloc (.cells #[.int .i64 x.t, x.dv, .int .i64 x.n, x.av] 55)).heap.size = w.heap.size + 1 := World.size_alloc w _
  repeat' (first | (simp (disch := omega) only [push_cast, seval, eca, ecb, s1, addr_add_eq, Nat.zero_add]) | refine iX ?_ ?_ <;> intros | refine aI (by omega) ?_ | fail)
  obtain ⟨l2, F, hs⟩ := boxes w x y hx hy
  generalize ((w.alloc (.cells #[.int .i64 x.t, x.dv, .int .i64 x.n, x.av] 55)).alloc (.cells #[.int .i64 y.t, y.dv, .int .i64 y.n, y.av] 55)) = w2 at *
  obtain ⟨hx2, hy2, _, _, _, _, _, _, a4, _, _, _, _, b4⟩ := F w2 (Later.refl _)
  repeat' (first | (simp (disch := omega) only [push_cast, seval, a4, b4, addr_add_eq, Nat.zero_add]) | refine iX ?_ ?_ <;> intros | refine aI (by omega) ?_ | refine dq ?_)
  refine (onekey_c x y w2 hx2 hy2).mono ?_
  rintro _ w3 ⟨rfl, l3⟩
  obtain ⟨hx3, hy3, _, _, _, _, _, a3, _, _, _, _, b3, _⟩ := F w3 l3
  repeat' (first | (simp (disch := omega) only [push_cast, seval, a3, b3, addr_add_eq, Nat.zero_add]) | refine iX ?_ ?_ <;> intros | refine aI (by omega) ?_ | refine dq ?_)
  refine (casame_c _ _ _ _ w3 hx3.2 hy3.2).mono ?_
  rintro _ w4 ⟨rfl, l4⟩
  obtain ⟨_, _, _, _, _, _, a2, _, _, _, _, b2, _, _⟩ := F w4 (l3.trans l4)
  have l04 := (l2.trans l3).trans l4
  by_cases h1 : ecmp x y = 0
  · rw [decide_eq_true h1]
    by_cases h2 : x.a = y.a
    · rw [decide_eq_true h2]
      by_cases h3 : x.n = y.n
      · have e : decide (ecmp x y = 0 ∧ x.a = y.a ∧ x.n = y.n) = true := decide_eq_true ⟨h1, h2, h3⟩
        rw [e]
        repeat' (first | (simp (disch := omega) only [push_cast, seval, a2, b2, h3, decide_true, addr_add_eq, Nat.zero_add]) | refine iX ?_ ?_ <;> intros | refine aI (by omega) ?_ | refine dq ?_)
        first | exact ⟨rfl, l04⟩ | exact l04
      · have e : decide (ecmp x y = 0 ∧ x.a = y.a ∧ x.n = y.n) = false := decide_eq_false fun h => h3 h.2.2
        rw [e]
        repeat' (first | (simp (disch := omega) only [push_cast, seval, a2, b2, addr_add_eq, Nat.zero_add]) | refine iX ?_ ?_ <;> intros | refine aI (by omega) ?_ | refine dq ?_)
        first | exact ⟨(by simp [h3]), l04⟩ | exact l04
    · have e : decide (ecmp x y = 0 ∧ x.a = y.a ∧ x.n = y.n) = false := decide_eq_false fun h => h2 h.2.1
      rw [decide_eq_false h2, e]
      repeat' (first | (simp (disch := omega) only [push_cast, seval, a2, b2, addr_add_eq, Nat.zero_add]) | refine iX ?_ ?_ <;> intros | refine aI (by omega) ?_ | refine dq ?_)
      first | exact ⟨rfl, l04⟩ | exact l04
  · have e : decide (ecmp x y = 0 ∧ x.a = y.a ∧ x.n = y.n) = false := decide_eq_false fun h => h1 h.1
    rw [decide_eq_false h1, e]
    repeat' (first | (simp (disch := omega) only [push_cast, seval, a2, b2, addr_add_eq, Nat.zero_add]) | refine iX ?_ ?_ <;> intros | refine aI (by omega) ?_ | refine dq ?_)
    first | exact ⟨rfl, l04⟩ | exact l04
end Go.Proofs.YtnofalhkapmcnaaGreat
end
section
set_option linter.unusedSimpArgs false
namespace Go.Proofs.YtnofalhkapmcnaaGreat
open Go.Vc Go.Key Go.Stab
set_option maxRecDepth 100000
theorem abs_iff (x y : El) : (ecmp x y = 0 ∧ x.a = y.a ∧ x.n = y.n) ↔ x.abs = y.abs := by
  have h := ckey_is x.t x.d y.t y.d
  unfold El.abs
  simp only [Prod.mk.injEq]
  constructor
  · rintro ⟨h1, h2, h3⟩
    have h1 : ckey x.t x.d y.t y.d = 0 := h1
    rcases h with h | h | h
    · omega
    · exact ⟨h.2.2.1, h.2.2.2, h3, h2⟩
    · omega
  · rintro ⟨h1, h2, h3, h4⟩
    rcases h with h | h | h
    · exact absurd ⟨h1, h2⟩ h.2.2
    · exact ⟨h.1, h4, h3⟩
    · exact absurd ⟨h1, h2⟩ h.2.2
theorem one_c' (x y : El) (w : World) (hx : EIs w x) (hy : EIs w y) : FnC Tryz.prog 33 #[elV x, elV y] w fun r w' => r = .bool (decide (x.abs = y.abs)) ∧ Later w w' := by
  refine (one_c x y w hx hy).mono ?_
  rintro _ w' ⟨rfl, h⟩
  exact ⟨by rw [decide_eq_decide.2 (abs_iff x y)], h⟩
theorem dsame_c (u v : Value) (a b : List El) (w : World) (hu : RecS elC 4 w u a) (hv : RecS elC 4 w v b) (ha : ∀ e ∈ a, EIs w e) (hb : ∀ e ∈ b, EIs w e) : FnC Tryz.prog 12 #[u, v] w fun r w' => (∃ t, r = .bool t ∧ (t = true ↔ a.map El.abs = b.map El.abs)) ∧ Later w w' := by
  obtain ⟨oa, ca, rfl, g1, g2⟩ := hu.slice
  obtain ⟨ob, cb, rfl, k1, k2⟩ := hv.slice
  refine enter12 _ _ ?_
  unfold B12
  by_cases hlen : a.length = b.length
  · repeat' (first | (simp (disch := omega) only [push_cast, seval]) | refine iX ?_ ?_ <;> intros | refine aI (by omega) ?_ | refine dq ?_)
    refine vc_loop W12_0 (fun i : Nat => [(4, .bool false), (5, .int .i64 (i : Int))])
      (fun i w' => i ≤ a.length ∧ Later w w' ∧ (a.take i).map El.abs = (b.take i).map El.abs) (fun i => a.length - i) 0 (by decide) ?_ ?_ ?_
    · simp (disch := omega) only [push_cast, seval]
    · exact ⟨by omega, Later.refl _, by simp⟩
    rintro i uu w0 ⟨hi, hl, he⟩
    by_cases hia : i < a.length
    · have hib : i < b.length := by omega
      obtain ⟨aa, rfl, c1⟩ := RecS.at elC_len (hu.later hl) hia
      obtain ⟨bb, rfl, c2⟩ := RecS.at elC_len (hv.later hl) hib
      have h1 := (ha _ (List.getElem_mem hia)).later hl
      have h2 := (hb _ (List.getElem_mem hib)).later hl
      repeat' (first | (simp (disch := omega) only [push_cast, seval, c1, c2]) | refine iX ?_ ?_ <;> intros | refine aI (by omega) ?_ | refine dq ?_)
      refine QFn.of hb33 (v := .bool (decide (a[i].abs = b[i].abs))) (fun w' hl => one_c' _ _ w' (h1.later hl) (h2.later hl)) ?_
      by_cases hab : a[i].abs = b[i].abs
      · rw [decide_eq_true hab]
        repeat' (first | (simp (disch := omega) only [push_cast, seval]) | refine iX ?_ ?_ <;> intros | refine aI (by omega) ?_ | refine dq ?_)
        intro w1 hl1
        repeat' (first | (simp (disch := omega) only [push_cast, seval]) | refine iX ?_ ?_ <;> intros | refine aI (by omega) ?_ | refine dq ?_)
        refine ⟨rfl, i + 1, by simp (disch := omega) only [push_cast, seval], ⟨by omega, hl.trans hl1, ?_⟩, by simp; omega⟩
        rw [take_snoc a i hia, take_snoc b i hib, List.map_append, List.map_append, he, List.map_singleton, List.map_singleton, hab]
      · have hne : a.map El.abs ≠ b.map El.abs := fun e => by
          have := congrArg (fun l => l[i]?) e
          simp [hia, hib] at this
          exact hab this
        rw [decide_eq_false hab]
        repeat' (first | (simp (disch := omega) only [push_cast, seval]) | refine iX ?_ ?_ <;> intros | refine aI (by omega) ?_ | refine dq ?_)
        intro w1 hl1
        repeat' (first | (simp (disch := omega) only [push_cast, seval]) | refine iX ?_ ?_ <;> intros | refine aI (by omega) ?_ | refine dq ?_)
        exact ⟨⟨false, rfl, by simp [hne]⟩, hl.trans hl1⟩
    · have e : i = a.length := by omega
      subst e
      rw [List.take_length, hlen, List.take_length] at he
      repeat' (first | (simp (disch := omega) only [push_cast, seval]) | refine iX ?_ ?_ <;> intros | refine aI (by omega) ?_ | refine dq ?_)
      exact ⟨⟨true, rfl, by simp [he]⟩, hl⟩
  · have hne : a.map El.abs ≠ b.map El.abs := fun e => by
      have := congrArg List.length e
      simp at this
      exact hlen this
    repeat' (first | (simp (disch := omega) only [push_cast, seval]) | refine iX ?_ ?_ <;> intros | refine aI (by omega) ?_ | refine dq ?_)
    exact ⟨⟨false, rfl, by simp [hne]⟩, Later.refl _⟩
end Go.Proofs.YtnofalhkapmcnaaGreat
end
section
namespace Go.Proofs.YtnofalhkapmcnaaGreat
open Go.Vc
set_option maxRecDepth 100000
variable (Q : Post) (ds : List Deferred) (σ : Env) (w : World)
/-! 3 columbary/columbarylaw25.GroupTells (params #[24, 32, 33], results #[(.tmp 6)], 92 slots) -/
abbrev r3_0 : List VOp :=
  [zBF 3 24 0,
   zBF 4 32 1,
   zC 6]
abbrev r3_1 : List VOp :=
  [lda 20 24 3,
   lda 21 32 4,
   mv 22 2 33,
   zBT 23 5 20 21 22 24 32 33 4,
   asg 7 23 4]
abbrev r3_2 : List VOp :=
  [mv 24 7 4,
   zCR 25 24]
abbrev r3_3 : List VOp :=
  [zBY 26 6 4,
   asg 6 26 4]
abbrev r3_4 : List VOp :=
  [zBK 27 33,
   mv 28 2 33,
   zBL 29 27 28 33,
   asg 8 29 33]
abbrev r3_5 : List VOp :=
  [lda 31 24 3,
   lda 32 32 4,
   mv 33 2 33,
   zBT 34 7 31 32 33 24 32 33 38,
   mv 30 34 38,
   ext 35 30 0 36,
   ext 36 30 1 37,
   asg 9 35 36,
   asg 10 36 37]
abbrev r3_6 : List VOp :=
  [lda 38 24 3,
   lda 39 32 4,
   mv 40 2 33,
   zBT 41 8 38 39 40 24 32 33 38,
   mv 37 41 38,
   ext 42 37 0 36,
   ext 43 37 1 37,
   asg 11 42 36,
   asg 12 43 37]
abbrev r3_7 : List VOp :=
  [lda 45 24 3,
   lda 46 32 4,
   mv 47 2 33,
   zBT 48 9 45 46 47 24 32 33 40,
   mv 44 48 40,
   ext 49 44 0 33,
   ext 50 44 1 37,
   asg 13 49 33,
   asg 14 50 37]
abbrev r3_8 : List VOp :=
  [lda 52 24 3,
   lda 53 32 4,
   mv 54 2 33,
   zBT 55 10 52 53 54 24 32 33 40,
   mv 51 55 40,
   ext 56 51 0 33,
   ext 57 51 1 37,
   asg 15 56 33,
   asg 16 57 37]
abbrev r3_9 : List VOp :=
  [mv 58 9 36,
   mv 59 11 36,
   zBU 60 11 58 59 36 36 4,
   asg 17 60 4]
abbrev r3_10 : List VOp :=
  [mv 61 13 33,
   mv 62 15 33,
   zBU 63 12 61 62 33 33 4,
   asg 18 63 4]
abbrev r3_11 : List VOp :=
  [mv 64 2 33,
   mv 65 8 33,
   zBU 66 12 64 65 33 33 4,
   asg 19 66 4]
abbrev r3_12 : List VOp :=
  [zBY 67 6 4,
   mv 68 67 4,
   zCL 69 17 4 68,
   zCN 70 68 69,
   mv 71 70 4,
   zCL 72 10 37 71,
   zCL 73 12 37 71,
   zN 74 37 72 73 71,
   zCN 75 71 74,
   mv 76 75 4,
   zCL 77 18 4 76,
   zCN 78 76 77,
   mv 79 78 4,
   zCL 80 14 37 79,
   zCL 81 16 37 79,
   zN 82 37 80 81 79,
   zCN 83 79 82,
   mv 84 83 4,
   zCL 85 19 4 84,
   zCN 86 84 85,
   mv 87 86 4,
   zCL 88 9 36 87,
   zCL 89 11 36 87,
   zBV 90 13 88 89 36 36 4 87,
   zCN 91 87 90,
   asg 6 91 4]
def B3 : VC :=
  (.seq (.region r3_0) (.seq (.region r3_1) (.seq (.seq (.region r3_2) (.cond (.tmp 25) (.seq (.region r3_3) .ret) .skip)) (.seq (.region r3_4) (.seq (.region r3_5) (.seq (.region r3_6) (.seq (.region r3_7) (.seq (.region r3_8) (.seq (.region r3_9) (.seq (.region r3_10) (.seq (.region r3_11) (.seq (.region r3_12) .ret))))))))))))
theorem code3 : ∃ c, Tryz.f3.body = some c ∧ abs Tryz.f3.ntmps c = B3 := ⟨_, rfl, by kernel_rfl⟩
theorem hb3 : HasBody Tryz.prog 3 := hasBody_of Tryz.func3 (by kernel_rfl)
theorem enter3 (x0 x1 x2 : Value) : Ent 3 B3 #[(.tmp 6)] [x0, x1, x2] := ent code3 hb3 Tryz.func3 rfl rfl
@[push_cast] theorem bsl33_0_CodesGL {K : Value → World → Prop} {w : World}  : vBuildSlice Tryz.prog 33 0 #[] K w = K (.slice (some ⟨w.heap.size, 0, none⟩) 0 0) (w.alloc (.cells #[] 55)) :=
  vBuildSlice_ok Tryz.underlying33 ti55 (by kernel_rfl) (by decide)
end Go.Proofs.YtnofalhkapmcnaaGreat
end
section
namespace Go.Proofs.YtnofalhkapmcnaaGreat
open Go.Vc Go.Key
theorem ScIs.of_ok {w : World} {dv mv : Value} {d m : List ByteArray} (h : StS w dv d ∧ (∀ s ∈ d, s.size ≤ Bz) ∧ StS w mv m ∧ ∀ s ∈ m, s.size ≤ Bz) : ScIs w dv mv d m :=
  ⟨h.1, h.2.2.1, fun s hs => Nat.le_trans (h.2.1 s hs) (by unfold Bz; omega), fun s hs => Nat.le_trans (h.2.2.2 s hs) (by unfold Bz; omega)⟩
end Go.Proofs.YtnofalhkapmcnaaGreat
end
