/- JournalKept: what was told is there behind any crash, in order, and at most one more; no conditions beyond the statement's own. -/
import Derived.Test.YtcajkjbempagaaaRows
import Derived.Test.YtcajkjbempagaaaPartL
set_option linter.all false
set_option linter.unusedSimpArgs false
namespace Go.Proofs.Ytcajkjbempagaaa.journalKept
open Go.Vc Go.Zig Go.Key Go.Vlt Go.Chk Go.RowKit Go.ChangeShapes Go.WideShapes Go.ChangeAt Go.Proofs.Ytcajkjbempagaaa
set_option maxRecDepth 100000
set_option maxHeartbeats 4000000 in
theorem law_c (dv mv v : Value) (d m : List ByteArray) (l : List Ej) (o0 o1 : Int) (w : World) (h : ScIs w dv mv d m) (hl : RecS ejC 5 w v l) (hes : ∀ x ∈ l, EjQ w x) (ho0 : -9223372036854775808 ≤ o0 ∧ o0 ≤ 9223372036854775807) (ho1 : -9223372036854775808 ≤ o1 ∧ o1 ≤ 9223372036854775807) :
    FnC Try.prog 6 #[scV dv mv, v, .agg #[.int .i64 o0, .int .i64 o1]] w fun v w' => v = .bool true ∧ Later w w' := by
  unfold scV
  obtain ⟨lo, lc, rfl, gl1, gl2⟩ := hl.slice
  refine enter6 _ _ _ ?_
  unfold B6
  obtain ⟨l1, s1, F1⟩ := box2 w dv mv 24
  have eca : (Value.agg #[dv, mv]).cells = #[dv, mv] := rfl
  have ecb : (Value.agg #[.int .i64 o0, .int .i64 o1]).cells = #[.int .i64 o0, .int .i64 o1] := rfl
  have B2 := Blk.new (w.alloc (.cells #[dv, mv] 24)) #[.int .i64 o0, .int .i64 o1] 53
  have l2 := later_alloc (w.alloc (.cells #[dv, mv] 24)) (.cells #[.int .i64 o0, .int .i64 o1] 53)
  rw [s1] at B2
  repeat' (first | (simp (disch := omega) only [push_cast, seval, eca, ecb, s1]) | refine iX ?_ ?_ <;> intros | refine aI (by omega) ?_ | fail)
  have l01 := l1.trans l2
  have FS : ∀ w', Later ((w.alloc (.cells #[dv, mv] 24)).alloc (.cells #[.int .i64 o0, .int .i64 o1] 53)) w' → cellsAt w' ⟨w.heap.size, 0, none⟩ 2 = some [dv, mv] := fun w' hl => (F1 w' (l2.trans hl)).2.2
  clear F1 l1 l2 s1
  generalize (w.alloc (.cells #[dv, mv] 24)).alloc (.cells #[.int .i64 o0, .int .i64 o1] 53) = w1 at *
  generalize hkf : w.heap.size = kf at *
  have FB : ∀ w', Later w1 w' → Blk w' (kf + 1) #[.int .i64 o0, .int .i64 o1] 53 := fun w' hl => B2.chg (Chg.of_later (ks := []) hl) (by simp)
  have FC : ∀ w', Later w1 w' → w'.cell? ⟨kf + 1, 0, none⟩ = some (.int .i64 o0) ∧ w'.cell? ⟨kf + 1, 1, none⟩ = some (.int .i64 o1) := fun w' hl => ⟨by rw [(FB w' hl).cell]; rfl, by rw [(FB w' hl).cell]; rfl⟩
  have fs := FS w1 (Later.refl _)
  repeat' (first | (simp (disch := omega) only [push_cast, seval, fs]) | refine iX ?_ ?_ <;> intros | refine aI (by omega) ?_ | refine dq ?_)
  refine (fits19_c dv mv _ d m l w1 (h.later l01) (hl.later l01) (fun x hx => ⟨(hes x hx).1.later l01, (hes x hx).2⟩)).mono ?_
  rintro _ w2 ⟨⟨t, rfl, ht⟩, l2⟩
  have l02 := l01.trans l2
  repeat' (first | (simp (disch := omega) only [push_cast, seval]) | refine iX ?_ ?_ <;> intros | refine aI (by omega) ?_ | refine dq ?_)
  refine (new_s 16777216 w2 (by omega)).mono ?_
  rintro _ w3 ⟨⟨_, hno⟩ | ⟨_, _, bk, r, hbk, hr, rfl, V3⟩, l3⟩
  · exact absurd (by omega) hno
  have l03 := l02.trans l3
  cases t with
  | false =>
    repeat' (first | (simp (disch := omega) only [push_cast, seval]) | refine iX ?_ ?_ <;> intros | refine aI (by omega) ?_ | refine dq ?_)
    refine (alive19_c w3).mono ?_
    rintro _ w9 ⟨rfl, l9⟩
    repeat' (first | (simp (disch := omega) only [push_cast, seval]) | refine iX ?_ ?_ <;> intros | refine aI (by omega) ?_ | refine dq ?_)
    exact l03.trans l9
  | true =>
  obtain ⟨hl40, hd, hm, hx, _⟩ := ht.1 rfl
  have hd1 : d.length ≤ 20 := hd.1
  have hm1 : m.length ≤ 20 := hm.1
  have l13 := l2.trans l3
  have hs2 := l02.size
  have hs3 := l3.size
  have hlt := V3.lt
  obtain ⟨c0, c1⟩ := FC w3 l13
  by_cases ha : 0 ≤ o0
  case neg =>
    have d0 : decide ((0 : Int) ≤ o0) = false := decide_eq_false ha
    repeat' (first | (simp (disch := omega) only [push_cast, seval, c0, d0, addr_add_eq, Nat.zero_add]) | refine iX ?_ ?_ <;> intros | refine aI (by omega) ?_ | refine dq ?_)
    have hz0 : w3.heap.size ≤ w3.heap.size := Nat.le_refl _
    refine vc_loop W6_0 (fun p : Nat × Value × Value => [(10, p.2.1), (11, p.2.2), (12, .int .i64 (p.1 : Int))])
      (fun p w' => p.1 ≤ l.length ∧ Later w2 w' ∧ w3.heap.size ≤ w'.heap.size ∧ ∃ (s : Vst) (tE aE : List Ej), VS w' bk r s ∧ OwnJ w' w3.heap.size p.2.1 tE ∧ OwnJ w' w3.heap.size p.2.2 aE ∧ Apt p.2.1 p.2.2 ∧ (∀ x ∈ aE, x ∈ l) ∧ (∀ x ∈ tE, x ∈ l) ∧ KI d.length m.length s (tE.map Ej.e) (aE.map Ej.e) p.1) (fun p => l.length - p.1) (0, .slice none 0 0, .slice none 0 0) (by decide) ?_ ?_ ?_
    · simp (disch := omega) only [push_cast, seval]
    · exact ⟨by omega, l3, hz0, _, [], [], V3, OwnR.nil _ _ _, OwnR.nil _ _ _, Apt.nil _, by simp, by simp, KI.zero (s0_good (by omega)) rfl rfl⟩
    rintro ⟨i, tv, av⟩ uu w5 ⟨hi, l5, hsz, s, tE, aE, V5, hoT, hoA, hap, hsA, hsT, hK⟩
    dsimp only at hi hoT hoA hap hK
    have l05 := l02.trans l5
    have l15 := l2.trans l5
    obtain ⟨to, tc, rfl⟩ := own_form hoT
    obtain ⟨ao, ac, rfl⟩ := own_form hoA
    have hdl := hK.hl
    rw [List.length_map] at hdl
    have hdt : tE.length ≤ aE.length := by
      obtain ⟨R, X, hA, _⟩ := hK.hx
      have := congrArg List.length hA
      rw [List.length_append, List.length_map, List.length_map] at this; omega
    by_cases hlt' : i < l.length
    · obtain ⟨ad, rfl, c1⟩ := RecS.at ejC_len (hl.later l05) hlt'
      have hin := List.getElem_mem hlt'
      have c1' : ∀ w', Later w w' → cellsAt w' (ad.add (i * 5)) 5 = some (ejC l[i]) := fun w' hw => by
        obtain ⟨a2, ha2, c2⟩ := RecS.at ejC_len (hl.later hw) hlt'
        cases ha2; exact c2
      have hq := hes _ hin
      have hq2 := hx _ hin
      have n1 : l[i].e.d.length ≤ 20 := hq2.1.1
      have n2 : l[i].e.k.length ≤ 20 := hq2.2
      generalize l[i] = x at *
      have fs := FS w5 l15
      repeat' (first | (simp (disch := omega) only [push_cast, seval]) | refine iX ?_ ?_ <;> intros | refine aI (by omega) ?_ | fail)
      refine drawn_k 5 ?_
      repeat' (first | (simp (disch := omega) only [push_cast, seval, fs, c1]) | refine iX ?_ ?_ <;> intros | refine aI (by omega) ?_ | fail)
      intro w6 l6
      have l06 := l05.trans l6
      refine (dRight_c dv mv d m x w6 (h.later l06) (hq.1.later l06) hq.2).mono ?_
      rintro _ w7 ⟨rfl, l7⟩
      have l07 := l06.trans l7
      have l57 := l6.trans l7
      have fs := FS w7 (l15.trans l57)
      have c1 := c1' w7 l07
      repeat' (first | (simp (disch := omega) only [push_cast, seval]) | refine iX ?_ ?_ <;> intros | refine aI (by omega) ?_ | fail)
      refine drawn_k 6 ?_
      repeat' (first | (simp (disch := omega) only [push_cast, seval, fs, c1]) | refine iX ?_ ?_ <;> intros | refine aI (by omega) ?_ | fail)
      intro w8 l8
      have l08 := l07.trans l8
      have l58 := l57.trans l8
      refine (jappend_c bk r s kLog dv mv d m x w8 (V5.later l58) hK.hg (by decide) (h.later l08) (by omega) (by omega) (hq.1.later l08) (by omega) (by omega)).mono ?_
      rintro _ w9 ⟨rfl, V9, c9⟩
      have l29 : Later w2 w9 := Chg.later (l5.trans l58) c9 (by intro k hk; simp at hk; omega)
      have l09 := l02.trans l29
      have hoT9 : OwnJ w9 w3.heap.size _ tE := own_chg (hoT.later l58) c9 (by intro k hk; simp at hk; omega)
      have hoA9 : OwnJ w9 w3.heap.size _ aE := own_chg (hoA.later l58) c9 (by intro k hk; simp at hk; omega)
      have hz9 := Nat.le_trans (Nat.le_trans hsz l58.size) c9.size
      have c1 := c1' w9 l09
      by_cases he : rgE d.length m.length x.e = true
      case neg =>
        have ea : aJ d.length m.length kLog x.e s = (191, s) := by unfold aJ; rw [if_neg he]
        have he' : rgE d.length m.length x.e = false := by simpa using he
        rw [ea] at V9 ⊢
        rw [he']
        repeat' (first | (simp (disch := omega) only [push_cast, seval]) | refine iX ?_ ?_ <;> intros | refine aI (by omega) ?_ | refine dq ?_)
        exact ⟨rfl, (i + 1, .slice to tE.length tc, .slice ao aE.length ac), by simp (disch := omega) only [push_cast, seval], ⟨by dsimp only; omega, l29, hz9, s, tE, aE, V9, hoT9, hoA9, hap, hsA, hsT, hK.skip⟩, by dsimp only; omega⟩
      rw [he]
      have l10 := later_alloc w9 (.cells #[.bool x.e.tick, .int .i64 x.e.now, .int .i64 x.e.t, x.dv, x.kv] 43)
      have B10 := Blk.new w9 #[.bool x.e.tick, .int .i64 x.e.now, .int .i64 x.e.t, x.dv, x.kv] 43
      unfold ejC at c1
      have hsA2 : ∀ y ∈ aE ++ [x], y ∈ l := fun y hy => by
        rcases List.mem_append.1 hy with hy | hy
        · exact hsA y hy
        · rw [List.mem_singleton.1 hy]; exact hin
      have hsT2 : ∀ y ∈ tE ++ [x], y ∈ l := fun y hy => by
        rcases List.mem_append.1 hy with hy | hy
        · exact hsT y hy
        · rw [List.mem_singleton.1 hy]; exact hin
      repeat' (first | (simp (disch := omega) only [push_cast, seval, c1]) | refine iX ?_ ?_ <;> intros | refine aI (by omega) ?_ | refine dq ?_)
      refine vAppend_j (r := [x]) (hoA9.later l10) (RecS.lit1 (ejC_len x) B10) (by intro e he; rw [List.mem_singleton.1 he]; exact hq.1.later (l09.trans l10)) (by rw [List.length_singleton]; omega) (Nat.le_trans hz9 l10.size) ?_
      intro v11 w11 hoA11 hg11 hs11
      have l211 := (l29.trans l10).appended (hoA9.later l10) hs3 hg11
      have V11 := VS.grown (V9.later l10) (hoA9.later l10) hg11 (by omega) (by omega)
      have hoT11 : OwnJ w11 w3.heap.size _ tE := own_apt (hoT9.later l10) hg11 hap.symm
      have hap11 : Apt v11 (.slice to tE.length tc) := Apt.next hap.symm (hoT9.later l10) hs11
      have hz11 := Nat.le_trans (Nat.le_trans hz9 l10.size) hg11.size
      have l011 := l02.trans l211
      have c1 := c1' w11 l011
      clear B10
      rcases hK.step he (by omega) hd1 hm1 with ⟨q1, hK2⟩ | ⟨q1, q2, hK2⟩
      · rw [q1]
        have l12 := later_alloc w11 (.cells #[.bool x.e.tick, .int .i64 x.e.now, .int .i64 x.e.t, x.dv, x.kv] 43)
        have B12 := Blk.new w11 #[.bool x.e.tick, .int .i64 x.e.now, .int .i64 x.e.t, x.dv, x.kv] 43
        unfold ejC at c1
        repeat' (first | (simp (disch := omega) only [push_cast, seval, c1]) | refine iX ?_ ?_ <;> intros | refine aI (by omega) ?_ | refine dq ?_)
        refine vAppend_j (r := [x]) (hoT11.later l12) (RecS.lit1 (ejC_len x) B12) (by intro e he; rw [List.mem_singleton.1 he]; exact hq.1.later (l011.trans l12)) (by rw [List.length_singleton]; omega) (Nat.le_trans hz11 l12.size) ?_
        intro v13 w13 hoT13 hg13 hs13
        have l213 := (l211.trans l12).appended (hoT11.later l12) hs3 hg13
        have V13 := VS.grown (V11.later l12) (hoT11.later l12) hg13 (by omega) (by omega)
        have hoA13 : OwnJ w13 w3.heap.size _ (aE ++ [x]) := own_apt (hoA11.later l12) hg13 hap11.symm
        have hap13 : Apt v13 v11 := Apt.next hap11.symm (hoA11.later l12) hs13
        repeat' (first | (simp (disch := omega) only [push_cast, seval]) | refine iX ?_ ?_ <;> intros | refine aI (by omega) ?_ | refine dq ?_)
        refine ⟨rfl, (i + 1, v13, v11), by simp (disch := omega) only [push_cast, seval], ⟨by dsimp only; omega, l213, Nat.le_trans hz11 (Nat.le_trans l12.size hg13.size), _, tE ++ [x], aE ++ [x], V13, hoT13, hoA13, hap13, hsA2, hsT2, ?_⟩, by dsimp only; omega⟩
        dsimp only
        rw [List.map_append, List.map_append, List.map_singleton]
        exact hK2
      · rw [q1]
        repeat' (first | (simp (disch := omega) only [push_cast, seval]) | refine iX ?_ ?_ <;> intros | refine aI (by omega) ?_ | refine dq ?_)
        refine (broken_s bk r _ w11 V11).mono ?_
        rintro _ w0 ⟨rfl, h0⟩
        obtain rfl := h0.symm
        have db : decide ((aJ d.length m.length kLog x.e s).2.fuse = 0) = true := decide_eq_true q2
        rw [db]
        repeat' (first | (simp (disch := omega) only [push_cast, seval]) | refine iX ?_ ?_ <;> intros | refine aI (by omega) ?_ | refine dq ?_)
        refine ⟨rfl, (i + 1, .slice to tE.length tc, v11), by simp (disch := omega) only [push_cast, seval], ⟨by dsimp only; omega, l211, hz11, _, tE, aE ++ [x], V11, hoT11, hoA11, hap11.symm, hsA2, hsT, ?_⟩, by dsimp only; omega⟩
        dsimp only
        rw [List.map_append, List.map_singleton]
        exact hK2
    have hie : i = l.length := by omega
    clear hlt'
    obtain ⟨hcl, n, hn1, hn2, hn3, hn4⟩ := hK.crash hd1 hm1 o1
    rw [List.length_map] at hn2 hn3 hn4
    have cB := (FC w5 l15).2
    repeat' (first | (simp (disch := omega) only [push_cast, seval, cB, addr_add_eq, Nat.zero_add]) | refine iX ?_ ?_ <;> intros | refine aI (by omega) ?_ | refine dq ?_)
    refine (crash_s bk r s o1 w5 V5 hK.hg ho1).mono ?_
    rintro _ w6 ⟨⟨b2, r2, rfl, hb2, hr2, V6⟩, l6⟩
    have l06 := l05.trans l6
    have G6 : Good (aCrash o1 s) := aCrash_good hK.hg o1
    have fs := FS w6 (l15.trans l6)
    repeat' (first | (simp (disch := omega) only [push_cast, seval, fs]) | refine iX ?_ ?_ <;> intros | refine aI (by omega) ?_ | refine dq ?_)
    refine (jread_c b2 r2 _ kLog dv mv d m w6 V6 G6 (h.later l06) (by omega) (by omega) (by omega)).mono ?_
    rintro _ w7 ⟨⟨xv, xs, rfl, hxo, hxs, hxm⟩, l7⟩
    have l07 := l06.trans l7
    rw [hn1] at hxm
    have hxl : xs.length = n := by
      have := congrArg List.length hxm
      rw [List.length_map, List.length_take, List.length_map] at this; omega
    obtain ⟨xo, xc, rfl⟩ := own_form hxo
    have e1 : decide ((xs.length : Int) < (tE.length : Int)) = false := decide_eq_false (by omega)
    have e2 : decide ((tE.length : Int) + 1 < (xs.length : Int)) = false := decide_eq_false (by omega)
    have e3 : decide ((aE.length : Int) < (xs.length : Int)) = false := decide_eq_false (by omega)
    repeat' (first | (simp (disch := omega) only [push_cast, seval, e1, e2, e3]) | refine iX ?_ ?_ <;> intros | refine aI (by omega) ?_ | refine dq ?_)
    refine (alive19_c w7).mono ?_
    rintro _ w8 ⟨rfl, l8⟩
    have l08 := l07.trans l8
    have hoA8 := OwnR.s (hoA.later ((l6.trans l7).trans l8))
    obtain ⟨_, hoc, hom, _, _⟩ := SlN.len hoA8
    unfold maxLen at hom
    have hPre := RecS.pre ejC_len hoA8 (j := xs.length) (by omega)
    repeat' (first | (simp (disch := omega) only [push_cast, seval]) | refine iX ?_ ?_ <;> intros | refine aI (by omega) ?_ | refine dq ?_)
    refine (esame_c _ _ xs (aE.take xs.length) w8 (OwnR.s (hxo.later l8)) hPre (fun e he => ((hxs e he).later l8).is) (fun e he => (hes e (hsA e (List.mem_of_mem_take he))).1.later l08)).mono ?_
    rintro _ w9 ⟨⟨t1, rfl, ht1⟩, l9⟩
    have ht1 : t1 = true := ht1.2 (by rw [hxm, List.map_take, hxl])
    subst ht1
    repeat' (first | (simp (disch := omega) only [push_cast, seval]) | refine iX ?_ ?_ <;> intros | refine aI (by omega) ?_ | refine dq ?_)
    exact l08.trans l9
  have d0 : decide ((0 : Int) ≤ o0) = true := decide_eq_true ha
  by_cases hb : o0 ≤ 100
  case neg =>
    have d1 : decide (o0 ≤ (100 : Int)) = false := decide_eq_false hb
    repeat' (first | (simp (disch := omega) only [push_cast, seval, c0, d0, d1, addr_add_eq, Nat.zero_add]) | refine iX ?_ ?_ <;> intros | refine aI (by omega) ?_ | refine dq ?_)
    have hz0 : w3.heap.size ≤ w3.heap.size := Nat.le_refl _
    refine vc_loop W6_0 (fun p : Nat × Value × Value => [(10, p.2.1), (11, p.2.2), (12, .int .i64 (p.1 : Int))])
      (fun p w' => p.1 ≤ l.length ∧ Later w2 w' ∧ w3.heap.size ≤ w'.heap.size ∧ ∃ (s : Vst) (tE aE : List Ej), VS w' bk r s ∧ OwnJ w' w3.heap.size p.2.1 tE ∧ OwnJ w' w3.heap.size p.2.2 aE ∧ Apt p.2.1 p.2.2 ∧ (∀ x ∈ aE, x ∈ l) ∧ (∀ x ∈ tE, x ∈ l) ∧ KI d.length m.length s (tE.map Ej.e) (aE.map Ej.e) p.1) (fun p => l.length - p.1) (0, .slice none 0 0, .slice none 0 0) (by decide) ?_ ?_ ?_
    · simp (disch := omega) only [push_cast, seval]
    · exact ⟨by omega, l3, hz0, _, [], [], V3, OwnR.nil _ _ _, OwnR.nil _ _ _, Apt.nil _, by simp, by simp, KI.zero (s0_good (by omega)) rfl rfl⟩
    rintro ⟨i, tv, av⟩ uu w5 ⟨hi, l5, hsz, s, tE, aE, V5, hoT, hoA, hap, hsA, hsT, hK⟩
    dsimp only at hi hoT hoA hap hK
    have l05 := l02.trans l5
    have l15 := l2.trans l5
    obtain ⟨to, tc, rfl⟩ := own_form hoT
    obtain ⟨ao, ac, rfl⟩ := own_form hoA
    have hdl := hK.hl
    rw [List.length_map] at hdl
    have hdt : tE.length ≤ aE.length := by
      obtain ⟨R, X, hA, _⟩ := hK.hx
      have := congrArg List.length hA
      rw [List.length_append, List.length_map, List.length_map] at this; omega
    by_cases hlt' : i < l.length
    · obtain ⟨ad, rfl, c1⟩ := RecS.at ejC_len (hl.later l05) hlt'
      have hin := List.getElem_mem hlt'
      have c1' : ∀ w', Later w w' → cellsAt w' (ad.add (i * 5)) 5 = some (ejC l[i]) := fun w' hw => by
        obtain ⟨a2, ha2, c2⟩ := RecS.at ejC_len (hl.later hw) hlt'
        cases ha2; exact c2
      have hq := hes _ hin
      have hq2 := hx _ hin
      have n1 : l[i].e.d.length ≤ 20 := hq2.1.1
      have n2 : l[i].e.k.length ≤ 20 := hq2.2
      generalize l[i] = x at *
      have fs := FS w5 l15
      repeat' (first | (simp (disch := omega) only [push_cast, seval]) | refine iX ?_ ?_ <;> intros | refine aI (by omega) ?_ | fail)
      refine drawn_k 5 ?_
      repeat' (first | (simp (disch := omega) only [push_cast, seval, fs, c1]) | refine iX ?_ ?_ <;> intros | refine aI (by omega) ?_ | fail)
      intro w6 l6
      have l06 := l05.trans l6
      refine (dRight_c dv mv d m x w6 (h.later l06) (hq.1.later l06) hq.2).mono ?_
      rintro _ w7 ⟨rfl, l7⟩
      have l07 := l06.trans l7
      have l57 := l6.trans l7
      have fs := FS w7 (l15.trans l57)
      have c1 := c1' w7 l07
      repeat' (first | (simp (disch := omega) only [push_cast, seval]) | refine iX ?_ ?_ <;> intros | refine aI (by omega) ?_ | fail)
      refine drawn_k 6 ?_
      repeat' (first | (simp (disch := omega) only [push_cast, seval, fs, c1]) | refine iX ?_ ?_ <;> intros | refine aI (by omega) ?_ | fail)
      intro w8 l8
      have l08 := l07.trans l8
      have l58 := l57.trans l8
      refine (jappend_c bk r s kLog dv mv d m x w8 (V5.later l58) hK.hg (by decide) (h.later l08) (by omega) (by omega) (hq.1.later l08) (by omega) (by omega)).mono ?_
      rintro _ w9 ⟨rfl, V9, c9⟩
      have l29 : Later w2 w9 := Chg.later (l5.trans l58) c9 (by intro k hk; simp at hk; omega)
      have l09 := l02.trans l29
      have hoT9 : OwnJ w9 w3.heap.size _ tE := own_chg (hoT.later l58) c9 (by intro k hk; simp at hk; omega)
      have hoA9 : OwnJ w9 w3.heap.size _ aE := own_chg (hoA.later l58) c9 (by intro k hk; simp at hk; omega)
      have hz9 := Nat.le_trans (Nat.le_trans hsz l58.size) c9.size
      have c1 := c1' w9 l09
      by_cases he : rgE d.length m.length x.e = true
      case neg =>
        have ea : aJ d.length m.length kLog x.e s = (191, s) := by unfold aJ; rw [if_neg he]
        have he' : rgE d.length m.length x.e = false := by simpa using he
        rw [ea] at V9 ⊢
        rw [he']
        repeat' (first | (simp (disch := omega) only [push_cast, seval]) | refine iX ?_ ?_ <;> intros | refine aI (by omega) ?_ | refine dq ?_)
        exact ⟨rfl, (i + 1, .slice to tE.length tc, .slice ao aE.length ac), by simp (disch := omega) only [push_cast, seval], ⟨by dsimp only; omega, l29, hz9, s, tE, aE, V9, hoT9, hoA9, hap, hsA, hsT, hK.skip⟩, by dsimp only; omega⟩
      rw [he]
      have l10 := later_alloc w9 (.cells #[.bool x.e.tick, .int .i64 x.e.now, .int .i64 x.e.t, x.dv, x.kv] 43)
      have B10 := Blk.new w9 #[.bool x.e.tick, .int .i64 x.e.now, .int .i64 x.e.t, x.dv, x.kv] 43
      unfold ejC at c1
      have hsA2 : ∀ y ∈ aE ++ [x], y ∈ l := fun y hy => by
        rcases List.mem_append.1 hy with hy | hy
        · exact hsA y hy
        · rw [List.mem_singleton.1 hy]; exact hin
      have hsT2 : ∀ y ∈ tE ++ [x], y ∈ l := fun y hy => by
        rcases List.mem_append.1 hy with hy | hy
        · exact hsT y hy
        · rw [List.mem_singleton.1 hy]; exact hin
      repeat' (first | (simp (disch := omega) only [push_cast, seval, c1]) | refine iX ?_ ?_ <;> intros | refine aI (by omega) ?_ | refine dq ?_)
      refine vAppend_j (r := [x]) (hoA9.later l10) (RecS.lit1 (ejC_len x) B10) (by intro e he; rw [List.mem_singleton.1 he]; exact hq.1.later (l09.trans l10)) (by rw [List.length_singleton]; omega) (Nat.le_trans hz9 l10.size) ?_
      intro v11 w11 hoA11 hg11 hs11
      have l211 := (l29.trans l10).appended (hoA9.later l10) hs3 hg11
      have V11 := VS.grown (V9.later l10) (hoA9.later l10) hg11 (by omega) (by omega)
      have hoT11 : OwnJ w11 w3.heap.size _ tE := own_apt (hoT9.later l10) hg11 hap.symm
      have hap11 : Apt v11 (.slice to tE.length tc) := Apt.next hap.symm (hoT9.later l10) hs11
      have hz11 := Nat.le_trans (Nat.le_trans hz9 l10.size) hg11.size
      have l011 := l02.trans l211
      have c1 := c1' w11 l011
      clear B10
      rcases hK.step he (by omega) hd1 hm1 with ⟨q1, hK2⟩ | ⟨q1, q2, hK2⟩
      · rw [q1]
        have l12 := later_alloc w11 (.cells #[.bool x.e.tick, .int .i64 x.e.now, .int .i64 x.e.t, x.dv, x.kv] 43)
        have B12 := Blk.new w11 #[.bool x.e.tick, .int .i64 x.e.now, .int .i64 x.e.t, x.dv, x.kv] 43
        unfold ejC at c1
        repeat' (first | (simp (disch := omega) only [push_cast, seval, c1]) | refine iX ?_ ?_ <;> intros | refine aI (by omega) ?_ | refine dq ?_)
        refine vAppend_j (r := [x]) (hoT11.later l12) (RecS.lit1 (ejC_len x) B12) (by intro e he; rw [List.mem_singleton.1 he]; exact hq.1.later (l011.trans l12)) (by rw [List.length_singleton]; omega) (Nat.le_trans hz11 l12.size) ?_
        intro v13 w13 hoT13 hg13 hs13
        have l213 := (l211.trans l12).appended (hoT11.later l12) hs3 hg13
        have V13 := VS.grown (V11.later l12) (hoT11.later l12) hg13 (by omega) (by omega)
        have hoA13 : OwnJ w13 w3.heap.size _ (aE ++ [x]) := own_apt (hoA11.later l12) hg13 hap11.symm
        have hap13 : Apt v13 v11 := Apt.next hap11.symm (hoA11.later l12) hs13
        repeat' (first | (simp (disch := omega) only [push_cast, seval]) | refine iX ?_ ?_ <;> intros | refine aI (by omega) ?_ | refine dq ?_)
        refine ⟨rfl, (i + 1, v13, v11), by simp (disch := omega) only [push_cast, seval], ⟨by dsimp only; omega, l213, Nat.le_trans hz11 (Nat.le_trans l12.size hg13.size), _, tE ++ [x], aE ++ [x], V13, hoT13, hoA13, hap13, hsA2, hsT2, ?_⟩, by dsimp only; omega⟩
        dsimp only
        rw [List.map_append, List.map_append, List.map_singleton]
        exact hK2
      · rw [q1]
        repeat' (first | (simp (disch := omega) only [push_cast, seval]) | refine iX ?_ ?_ <;> intros | refine aI (by omega) ?_ | refine dq ?_)
        refine (broken_s bk r _ w11 V11).mono ?_
        rintro _ w0 ⟨rfl, h0⟩
        obtain rfl := h0.symm
        have db : decide ((aJ d.length m.length kLog x.e s).2.fuse = 0) = true := decide_eq_true q2
        rw [db]
        repeat' (first | (simp (disch := omega) only [push_cast, seval]) | refine iX ?_ ?_ <;> intros | refine aI (by omega) ?_ | refine dq ?_)
        refine ⟨rfl, (i + 1, .slice to tE.length tc, v11), by simp (disch := omega) only [push_cast, seval], ⟨by dsimp only; omega, l211, hz11, _, tE, aE ++ [x], V11, hoT11, hoA11, hap11.symm, hsA2, hsT, ?_⟩, by dsimp only; omega⟩
        dsimp only
        rw [List.map_append, List.map_singleton]
        exact hK2
    have hie : i = l.length := by omega
    clear hlt'
    obtain ⟨hcl, n, hn1, hn2, hn3, hn4⟩ := hK.crash hd1 hm1 o1
    rw [List.length_map] at hn2 hn3 hn4
    have cB := (FC w5 l15).2
    repeat' (first | (simp (disch := omega) only [push_cast, seval, cB, addr_add_eq, Nat.zero_add]) | refine iX ?_ ?_ <;> intros | refine aI (by omega) ?_ | refine dq ?_)
    refine (crash_s bk r s o1 w5 V5 hK.hg ho1).mono ?_
    rintro _ w6 ⟨⟨b2, r2, rfl, hb2, hr2, V6⟩, l6⟩
    have l06 := l05.trans l6
    have G6 : Good (aCrash o1 s) := aCrash_good hK.hg o1
    have fs := FS w6 (l15.trans l6)
    repeat' (first | (simp (disch := omega) only [push_cast, seval, fs]) | refine iX ?_ ?_ <;> intros | refine aI (by omega) ?_ | refine dq ?_)
    refine (jread_c b2 r2 _ kLog dv mv d m w6 V6 G6 (h.later l06) (by omega) (by omega) (by omega)).mono ?_
    rintro _ w7 ⟨⟨xv, xs, rfl, hxo, hxs, hxm⟩, l7⟩
    have l07 := l06.trans l7
    rw [hn1] at hxm
    have hxl : xs.length = n := by
      have := congrArg List.length hxm
      rw [List.length_map, List.length_take, List.length_map] at this; omega
    obtain ⟨xo, xc, rfl⟩ := own_form hxo
    have e1 : decide ((xs.length : Int) < (tE.length : Int)) = false := decide_eq_false (by omega)
    have e2 : decide ((tE.length : Int) + 1 < (xs.length : Int)) = false := decide_eq_false (by omega)
    have e3 : decide ((aE.length : Int) < (xs.length : Int)) = false := decide_eq_false (by omega)
    repeat' (first | (simp (disch := omega) only [push_cast, seval, e1, e2, e3]) | refine iX ?_ ?_ <;> intros | refine aI (by omega) ?_ | refine dq ?_)
    refine (alive19_c w7).mono ?_
    rintro _ w8 ⟨rfl, l8⟩
    have l08 := l07.trans l8
    have hoA8 := OwnR.s (hoA.later ((l6.trans l7).trans l8))
    obtain ⟨_, hoc, hom, _, _⟩ := SlN.len hoA8
    unfold maxLen at hom
    have hPre := RecS.pre ejC_len hoA8 (j := xs.length) (by omega)
    repeat' (first | (simp (disch := omega) only [push_cast, seval]) | refine iX ?_ ?_ <;> intros | refine aI (by omega) ?_ | refine dq ?_)
    refine (esame_c _ _ xs (aE.take xs.length) w8 (OwnR.s (hxo.later l8)) hPre (fun e he => ((hxs e he).later l8).is) (fun e he => (hes e (hsA e (List.mem_of_mem_take he))).1.later l08)).mono ?_
    rintro _ w9 ⟨⟨t1, rfl, ht1⟩, l9⟩
    have ht1 : t1 = true := ht1.2 (by rw [hxm, List.map_take, hxl])
    subst ht1
    repeat' (first | (simp (disch := omega) only [push_cast, seval]) | refine iX ?_ ?_ <;> intros | refine aI (by omega) ?_ | refine dq ?_)
    exact l08.trans l9
  have d1 : decide (o0 ≤ (100 : Int)) = true := decide_eq_true hb
  repeat' (first | (simp (disch := omega) only [push_cast, seval, c0, d0, d1, addr_add_eq, Nat.zero_add]) | refine iX ?_ ?_ <;> intros | refine aI (by omega) ?_ | refine dq ?_)
  refine (arm_s bk r _ o0 w3 V3).mono ?_
  rintro _ w4 ⟨rfl, V4, c4⟩
  repeat' (first | (simp (disch := omega) only [push_cast, seval]) | refine iX ?_ ?_ <;> intros | refine aI (by omega) ?_ | refine dq ?_)
  have hz0 : w3.heap.size ≤ w4.heap.size := c4.size
  refine vc_loop W6_0 (fun p : Nat × Value × Value => [(10, p.2.1), (11, p.2.2), (12, .int .i64 (p.1 : Int))])
    (fun p w' => p.1 ≤ l.length ∧ Later w2 w' ∧ w3.heap.size ≤ w'.heap.size ∧ ∃ (s : Vst) (tE aE : List Ej), VS w' bk r s ∧ OwnJ w' w3.heap.size p.2.1 tE ∧ OwnJ w' w3.heap.size p.2.2 aE ∧ Apt p.2.1 p.2.2 ∧ (∀ x ∈ aE, x ∈ l) ∧ (∀ x ∈ tE, x ∈ l) ∧ KI d.length m.length s (tE.map Ej.e) (aE.map Ej.e) p.1) (fun p => l.length - p.1) (0, .slice none 0 0, .slice none 0 0) (by decide) ?_ ?_ ?_
  · simp (disch := omega) only [push_cast, seval]
  · exact ⟨by omega, Chg.later l3 c4 (by intro k hk; simp at hk; omega), hz0, _, [], [], V4, OwnR.nil _ _ _, OwnR.nil _ _ _, Apt.nil _, by simp, by simp, KI.arm (by omega) hb⟩
  rintro ⟨i, tv, av⟩ uu w5 ⟨hi, l5, hsz, s, tE, aE, V5, hoT, hoA, hap, hsA, hsT, hK⟩
  dsimp only at hi hoT hoA hap hK
  have l05 := l02.trans l5
  have l15 := l2.trans l5
  obtain ⟨to, tc, rfl⟩ := own_form hoT
  obtain ⟨ao, ac, rfl⟩ := own_form hoA
  have hdl := hK.hl
  rw [List.length_map] at hdl
  have hdt : tE.length ≤ aE.length := by
    obtain ⟨R, X, hA, _⟩ := hK.hx
    have := congrArg List.length hA
    rw [List.length_append, List.length_map, List.length_map] at this; omega
  by_cases hlt' : i < l.length
  · obtain ⟨ad, rfl, c1⟩ := RecS.at ejC_len (hl.later l05) hlt'
    have hin := List.getElem_mem hlt'
    have c1' : ∀ w', Later w w' → cellsAt w' (ad.add (i * 5)) 5 = some (ejC l[i]) := fun w' hw => by
      obtain ⟨a2, ha2, c2⟩ := RecS.at ejC_len (hl.later hw) hlt'
      cases ha2; exact c2
    have hq := hes _ hin
    have hq2 := hx _ hin
    have n1 : l[i].e.d.length ≤ 20 := hq2.1.1
    have n2 : l[i].e.k.length ≤ 20 := hq2.2
    generalize l[i] = x at *
    have fs := FS w5 l15
    repeat' (first | (simp (disch := omega) only [push_cast, seval]) | refine iX ?_ ?_ <;> intros | refine aI (by omega) ?_ | fail)
    refine drawn_k 5 ?_
    repeat' (first | (simp (disch := omega) only [push_cast, seval, fs, c1]) | refine iX ?_ ?_ <;> intros | refine aI (by omega) ?_ | fail)
    intro w6 l6
    have l06 := l05.trans l6
    refine (dRight_c dv mv d m x w6 (h.later l06) (hq.1.later l06) hq.2).mono ?_
    rintro _ w7 ⟨rfl, l7⟩
    have l07 := l06.trans l7
    have l57 := l6.trans l7
    have fs := FS w7 (l15.trans l57)
    have c1 := c1' w7 l07
    repeat' (first | (simp (disch := omega) only [push_cast, seval]) | refine iX ?_ ?_ <;> intros | refine aI (by omega) ?_ | fail)
    refine drawn_k 6 ?_
    repeat' (first | (simp (disch := omega) only [push_cast, seval, fs, c1]) | refine iX ?_ ?_ <;> intros | refine aI (by omega) ?_ | fail)
    intro w8 l8
    have l08 := l07.trans l8
    have l58 := l57.trans l8
    refine (jappend_c bk r s kLog dv mv d m x w8 (V5.later l58) hK.hg (by decide) (h.later l08) (by omega) (by omega) (hq.1.later l08) (by omega) (by omega)).mono ?_
    rintro _ w9 ⟨rfl, V9, c9⟩
    have l29 : Later w2 w9 := Chg.later (l5.trans l58) c9 (by intro k hk; simp at hk; omega)
    have l09 := l02.trans l29
    have hoT9 : OwnJ w9 w3.heap.size _ tE := own_chg (hoT.later l58) c9 (by intro k hk; simp at hk; omega)
    have hoA9 : OwnJ w9 w3.heap.size _ aE := own_chg (hoA.later l58) c9 (by intro k hk; simp at hk; omega)
    have hz9 := Nat.le_trans (Nat.le_trans hsz l58.size) c9.size
    have c1 := c1' w9 l09
    by_cases he : rgE d.length m.length x.e = true
    case neg =>
      have ea : aJ d.length m.length kLog x.e s = (191, s) := by unfold aJ; rw [if_neg he]
      have he' : rgE d.length m.length x.e = false := by simpa using he
      rw [ea] at V9 ⊢
      rw [he']
      repeat' (first | (simp (disch := omega) only [push_cast, seval]) | refine iX ?_ ?_ <;> intros | refine aI (by omega) ?_ | refine dq ?_)
      exact ⟨rfl, (i + 1, .slice to tE.length tc, .slice ao aE.length ac), by simp (disch := omega) only [push_cast, seval], ⟨by dsimp only; omega, l29, hz9, s, tE, aE, V9, hoT9, hoA9, hap, hsA, hsT, hK.skip⟩, by dsimp only; omega⟩
    rw [he]
    have l10 := later_alloc w9 (.cells #[.bool x.e.tick, .int .i64 x.e.now, .int .i64 x.e.t, x.dv, x.kv] 43)
    have B10 := Blk.new w9 #[.bool x.e.tick, .int .i64 x.e.now, .int .i64 x.e.t, x.dv, x.kv] 43
    unfold ejC at c1
    have hsA2 : ∀ y ∈ aE ++ [x], y ∈ l := fun y hy => by
      rcases List.mem_append.1 hy with hy | hy
      · exact hsA y hy
      · rw [List.mem_singleton.1 hy]; exact hin
    have hsT2 : ∀ y ∈ tE ++ [x], y ∈ l := fun y hy => by
      rcases List.mem_append.1 hy with hy | hy
      · exact hsT y hy
      · rw [List.mem_singleton.1 hy]; exact hin
    repeat' (first | (simp (disch := omega) only [push_cast, seval, c1]) | refine iX ?_ ?_ <;> intros | refine aI (by omega) ?_ | refine dq ?_)
    refine vAppend_j (r := [x]) (hoA9.later l10) (RecS.lit1 (ejC_len x) B10) (by intro e he; rw [List.mem_singleton.1 he]; exact hq.1.later (l09.trans l10)) (by rw [List.length_singleton]; omega) (Nat.le_trans hz9 l10.size) ?_
    intro v11 w11 hoA11 hg11 hs11
    have l211 := (l29.trans l10).appended (hoA9.later l10) hs3 hg11
    have V11 := VS.grown (V9.later l10) (hoA9.later l10) hg11 (by omega) (by omega)
    have hoT11 : OwnJ w11 w3.heap.size _ tE := own_apt (hoT9.later l10) hg11 hap.symm
    have hap11 : Apt v11 (.slice to tE.length tc) := Apt.next hap.symm (hoT9.later l10) hs11
    have hz11 := Nat.le_trans (Nat.le_trans hz9 l10.size) hg11.size
    have l011 := l02.trans l211
    have c1 := c1' w11 l011
    clear B10
    rcases hK.step he (by omega) hd1 hm1 with ⟨q1, hK2⟩ | ⟨q1, q2, hK2⟩
    · rw [q1]
      have l12 := later_alloc w11 (.cells #[.bool x.e.tick, .int .i64 x.e.now, .int .i64 x.e.t, x.dv, x.kv] 43)
      have B12 := Blk.new w11 #[.bool x.e.tick, .int .i64 x.e.now, .int .i64 x.e.t, x.dv, x.kv] 43
      unfold ejC at c1
      repeat' (first | (simp (disch := omega) only [push_cast, seval, c1]) | refine iX ?_ ?_ <;> intros | refine aI (by omega) ?_ | refine dq ?_)
      refine vAppend_j (r := [x]) (hoT11.later l12) (RecS.lit1 (ejC_len x) B12) (by intro e he; rw [List.mem_singleton.1 he]; exact hq.1.later (l011.trans l12)) (by rw [List.length_singleton]; omega) (Nat.le_trans hz11 l12.size) ?_
      intro v13 w13 hoT13 hg13 hs13
      have l213 := (l211.trans l12).appended (hoT11.later l12) hs3 hg13
      have V13 := VS.grown (V11.later l12) (hoT11.later l12) hg13 (by omega) (by omega)
      have hoA13 : OwnJ w13 w3.heap.size _ (aE ++ [x]) := own_apt (hoA11.later l12) hg13 hap11.symm
      have hap13 : Apt v13 v11 := Apt.next hap11.symm (hoA11.later l12) hs13
      repeat' (first | (simp (disch := omega) only [push_cast, seval]) | refine iX ?_ ?_ <;> intros | refine aI (by omega) ?_ | refine dq ?_)
      refine ⟨rfl, (i + 1, v13, v11), by simp (disch := omega) only [push_cast, seval], ⟨by dsimp only; omega, l213, Nat.le_trans hz11 (Nat.le_trans l12.size hg13.size), _, tE ++ [x], aE ++ [x], V13, hoT13, hoA13, hap13, hsA2, hsT2, ?_⟩, by dsimp only; omega⟩
      dsimp only
      rw [List.map_append, List.map_append, List.map_singleton]
      exact hK2
    · rw [q1]
      repeat' (first | (simp (disch := omega) only [push_cast, seval]) | refine iX ?_ ?_ <;> intros | refine aI (by omega) ?_ | refine dq ?_)
      refine (broken_s bk r _ w11 V11).mono ?_
      rintro _ w0 ⟨rfl, h0⟩
      obtain rfl := h0.symm
      have db : decide ((aJ d.length m.length kLog x.e s).2.fuse = 0) = true := decide_eq_true q2
      rw [db]
      repeat' (first | (simp (disch := omega) only [push_cast, seval]) | refine iX ?_ ?_ <;> intros | refine aI (by omega) ?_ | refine dq ?_)
      refine ⟨rfl, (i + 1, .slice to tE.length tc, v11), by simp (disch := omega) only [push_cast, seval], ⟨by dsimp only; omega, l211, hz11, _, tE, aE ++ [x], V11, hoT11, hoA11, hap11.symm, hsA2, hsT, ?_⟩, by dsimp only; omega⟩
      dsimp only
      rw [List.map_append, List.map_singleton]
      exact hK2
  have hie : i = l.length := by omega
  clear hlt'
  obtain ⟨hcl, n, hn1, hn2, hn3, hn4⟩ := hK.crash hd1 hm1 o1
  rw [List.length_map] at hn2 hn3 hn4
  have cB := (FC w5 l15).2
  repeat' (first | (simp (disch := omega) only [push_cast, seval, cB, addr_add_eq, Nat.zero_add]) | refine iX ?_ ?_ <;> intros | refine aI (by omega) ?_ | refine dq ?_)
  refine (crash_s bk r s o1 w5 V5 hK.hg ho1).mono ?_
  rintro _ w6 ⟨⟨b2, r2, rfl, hb2, hr2, V6⟩, l6⟩
  have l06 := l05.trans l6
  have G6 : Good (aCrash o1 s) := aCrash_good hK.hg o1
  have fs := FS w6 (l15.trans l6)
  repeat' (first | (simp (disch := omega) only [push_cast, seval, fs]) | refine iX ?_ ?_ <;> intros | refine aI (by omega) ?_ | refine dq ?_)
  refine (jread_c b2 r2 _ kLog dv mv d m w6 V6 G6 (h.later l06) (by omega) (by omega) (by omega)).mono ?_
  rintro _ w7 ⟨⟨xv, xs, rfl, hxo, hxs, hxm⟩, l7⟩
  have l07 := l06.trans l7
  rw [hn1] at hxm
  have hxl : xs.length = n := by
    have := congrArg List.length hxm
    rw [List.length_map, List.length_take, List.length_map] at this; omega
  obtain ⟨xo, xc, rfl⟩ := own_form hxo
  have e1 : decide ((xs.length : Int) < (tE.length : Int)) = false := decide_eq_false (by omega)
  have e2 : decide ((tE.length : Int) + 1 < (xs.length : Int)) = false := decide_eq_false (by omega)
  have e3 : decide ((aE.length : Int) < (xs.length : Int)) = false := decide_eq_false (by omega)
  repeat' (first | (simp (disch := omega) only [push_cast, seval, e1, e2, e3]) | refine iX ?_ ?_ <;> intros | refine aI (by omega) ?_ | refine dq ?_)
  refine (alive19_c w7).mono ?_
  rintro _ w8 ⟨rfl, l8⟩
  have l08 := l07.trans l8
  have hoA8 := OwnR.s (hoA.later ((l6.trans l7).trans l8))
  obtain ⟨_, hoc, hom, _, _⟩ := SlN.len hoA8
  unfold maxLen at hom
  have hPre := RecS.pre ejC_len hoA8 (j := xs.length) (by omega)
  repeat' (first | (simp (disch := omega) only [push_cast, seval]) | refine iX ?_ ?_ <;> intros | refine aI (by omega) ?_ | refine dq ?_)
  refine (esame_c _ _ xs (aE.take xs.length) w8 (OwnR.s (hxo.later l8)) hPre (fun e he => ((hxs e he).later l8).is) (fun e he => (hes e (hsA e (List.mem_of_mem_take he))).1.later l08)).mono ?_
  rintro _ w9 ⟨⟨t1, rfl, ht1⟩, l9⟩
  have ht1 : t1 = true := ht1.2 (by rw [hxm, List.map_take, hxl])
  subst ht1
  repeat' (first | (simp (disch := omega) only [push_cast, seval]) | refine iX ?_ ?_ <;> intros | refine aI (by omega) ?_ | refine dq ?_)
  exact l08.trans l9
theorem own : ownKnob Try.prog.godebug = none := by kernel_rfl
theorem lifted (os : Os) (started : os.Started) (H : Type) (enc : TypeId × Value → H) :
    ReturnsInHanded {} Try.checked os 6 .any (Rows.journalKeptSpec.pre6 enc Try.prog Try.f6 Rows.journalKeptRow.domain false) (Rows.journalKeptSpec.post enc Try.prog Try.f6 false true false false) := by
  refine lifted_later (C := Try.checked) own started (by kernel_rfl) Try.func6 hb6
    (ChangeSpec.witness6 (enc := enc) (C := Try.checked) false ⟨#[], #[.agg #[.slice none 0 0, .slice none 0 0], .slice none 0 0, .agg #[.int .i64 0, .int .i64 0]], []⟩ 6 (by kernel_rfl) (by kernel_rfl) (by kernel_rfl) (by kernel_rfl))
    (by kernel_rfl) (list_all (by kernel_rfl)) (by kernel_rfl) Try.underlying4 rfl ?_ ?_
  · intro ds h
    have h : ds.length = 3 := h
    match ds, h with
    | [_, _, _], _ => rfl
  · intro W base args ds p hval0 hA0
    have hval : ∀ (j : Nat) t v, Try.f6.params[j]? = some t → args[j]? = some v → Value.okWide Try.prog W .any base t v := hval0
    have hA : DataW.TrodAll enc Try.prog W 0 (fun _ => true) true Try.f6.params.toList args.toList ds p := hA0
    rw [Try.params6] at hA hval
    obtain ⟨v0, vs0, d0, ds0, p0, q0, hargs, rfl, rfl, h0, r0⟩ := trodAll_cons hA
    obtain ⟨v1, vs1, d1, ds1, p1, q1, rfl, rfl, rfl, h1, r1⟩ := trodAll_cons r0
    obtain ⟨v2, vs2, d2, ds2, p2, q2, rfl, rfl, rfl, h2, r2⟩ := trodAll_cons r1
    obtain ⟨rfl, rfl, rfl⟩ := trodAll_nil r2
    obtain rfl : args = #[v0, v1, v2] := by cases args; simp_all
    obtain ⟨a0, rfl, w0⟩ := open_schema (hval 0 24 v0 rfl rfl) h0
    obtain ⟨a1, w1⟩ := open_entries (hval 1 33 v1 rfl rfl) h1
    obtain ⟨a2, b2, rfl, w2, u2⟩ := open_pair Try.underlying53 Try.underlying3 (by kernel_rfl) (by kernel_rfl) (hval 2 53 v2 rfl rfl) h2
    exact law_c _ _ v1 _ _ a1 a2 b2 W w0 w1.1 w1.2 (i64_of_wf w2) (i64_of_wf u2)
theorem over : Rows.journalKeptRow.holds Try.pinned (OpenSpec.ofChange Rows.journalKeptSpec) :=
  OpenClaim.holds_of_wide 6 Try.f6 rfl rfl rfl rfl rfl rfl rfl ⟨rfl, rfl, rfl, rfl, rfl⟩ rfl rfl rfl rfl rfl (by kernel_rfl) Try.func6 (by kernel_rfl)
    (of_decide_eq_true (by kernel_rfl)) (by unfold Func.isWrapper; first | (rw [if_pos (by decide +kernel)]; kernel_rfl) | (rw [if_neg (by decide +kernel)]; exact ⟨rfl, rfl⟩))
    (fun os started H enc _ => lifted os started H enc)
/-- The statement. -/
theorem proved : Rows.JournalKeptSaid :=
  over
end Go.Proofs.Ytcajkjbempagaaa.journalKept
