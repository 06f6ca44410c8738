/- JournalParts: entries that are appended to two files, and to one behind the other, are read so; more bytes behind, that are no block, change nothing; no conditions beyond the statement's own. -/
import Derived.Test.YtcajkjbempagaaaRows
import Derived.Test.YtcajkjbempagaaaPartL
set_option linter.all false
set_option linter.unusedSimpArgs false
namespace Go.Proofs.Ytcajkjbempagaaa.journalParts
open Go.Vc Go.Zig Go.Key Go.Vlt Go.Chk Go.RowKit Go.ChangeShapes Go.WideShapes Go.ChangeAt Go.Proofs.Ytcajkjbempagaaa
set_option maxRecDepth 100000
set_option maxHeartbeats 4000000 in
theorem law_c (dv mv v : Value) (d m : List ByteArray) (l : List Ej) (at' : Int) (w : World) (h : ScIs w dv mv d m) (hl : RecS ejC 5 w v l) (hes : ∀ x ∈ l, EjQ w x) (hat : -9223372036854775808 ≤ at' ∧ at' ≤ 9223372036854775807) :
    FnC Try.prog 5 #[scV dv mv, v, .int .i64 at'] w fun v w' => v = .bool true ∧ Later w w' := by
  unfold scV
  obtain ⟨lo, lc, rfl, gl1, gl2⟩ := hl.slice
  refine enter5 _ _ _ ?_
  unfold B5
  obtain ⟨l1, s1, F⟩ := box2 w dv mv 24
  have eca : (Value.agg #[dv, mv]).cells = #[dv, mv] := rfl
  repeat' (first | (simp (disch := omega) only [push_cast, seval, eca, s1]) | refine iX ?_ ?_ <;> intros | refine aI (by omega) ?_ | fail)
  generalize w.alloc (.cells #[dv, mv] 24) = w1 at *
  obtain ⟨f0, f1, f2⟩ := F w1 (Later.refl _)
  repeat' (first | (simp (disch := omega) only [push_cast, seval, f2]) | refine iX ?_ ?_ <;> intros | refine aI (by omega) ?_ | refine dq ?_)
  refine (fits19_c dv mv _ d m l w1 (h.later l1) (hl.later l1) (fun x hx => ⟨(hes x hx).1.later l1, (hes x hx).2⟩)).mono ?_
  rintro _ w2 ⟨⟨t, rfl, ht⟩, l2⟩
  have l02 := l1.trans l2
  repeat' (first | (simp (disch := omega) only [push_cast, seval]) | refine iX ?_ ?_ <;> intros | refine aI (by omega) ?_ | refine dq ?_)
  refine (new_s 16777216 w2 (by omega)).mono ?_
  rintro _ w3 ⟨⟨_, hno⟩ | ⟨_, _, bk, r, hbk, hr, rfl, V3⟩, l3⟩
  · exact absurd (by omega) hno
  have l03 := l02.trans l3
  cases t with
  | false =>
    repeat' (first | (simp (disch := omega) only [push_cast, seval]) | refine iX ?_ ?_ <;> intros | refine aI (by omega) ?_ | refine dq ?_)
    refine (alive19_c w3).mono ?_
    rintro _ w9 ⟨rfl, l9⟩
    repeat' (first | (simp (disch := omega) only [push_cast, seval]) | refine iX ?_ ?_ <;> intros | refine aI (by omega) ?_ | refine dq ?_)
    exact l03.trans l9
  | true =>
  obtain ⟨hl40, hd, hm, hx, _⟩ := ht.1 rfl
  have hd1 : d.length ≤ 20 := hd.1
  have hm1 : m.length ≤ 20 := hm.1
  have l13 := l2.trans l3
  have hs1 := l1.size
  have hs2 := l02.size
  have hs3 := l3.size
  have hlt := V3.lt
  repeat' (first | (simp (disch := omega) only [push_cast, seval]) | refine iX ?_ ?_ <;> intros | refine aI (by omega) ?_ | refine dq ?_)
  refine vc_loop W5_0 (fun p : Nat × Nat × Value => [(10, .int .i64 (p.2.1 : Int)), (11, p.2.2), (12, .int .i64 (p.1 : Int))])
    (fun p w' => p.1 ≤ l.length ∧ Later w2 w' ∧ w3.heap.size ≤ w'.heap.size ∧ ∃ (s : Vst) (es : List Ej), VS w' bk r s ∧ OwnJ w' w3.heap.size p.2.2 es ∧ (∀ x ∈ es, x ∈ l) ∧ PI d.length m.length s (es.map Ej.e) p.2.1 p.1 at') (fun p => l.length - p.1) (0, 0, .slice none 0 0) (by decide) ?_ ?_ ?_
  · simp (disch := omega) only [push_cast, seval]
  · exact ⟨by omega, l3, by omega, _, [], V3, OwnR.nil _ _ _, by simp, PI.zero⟩
  rintro ⟨i, k, v⟩ uu w4 ⟨hi, l4, hsz, s, es, V4, ho, hsub, hP⟩
  dsimp only at hi ho hP
  have l04 := l02.trans l4
  have l14 := l2.trans l4
  obtain ⟨oo, oc, rfl⟩ := own_form ho
  have hdl := hP.hl
  have hkl := hP.hk
  rw [List.length_map] at hdl hkl
  by_cases hlt' : i < l.length
  · obtain ⟨ad, rfl, c1⟩ := RecS.at ejC_len (hl.later l04) hlt'
    have hin := List.getElem_mem hlt'
    have c1' : ∀ w', Later w w' → cellsAt w' (ad.add (i * 5)) 5 = some (ejC l[i]) := fun w' hw => by
      obtain ⟨a2, ha2, c2⟩ := RecS.at ejC_len (hl.later hw) hlt'
      cases ha2; exact c2
    have hq := hes _ hin
    have hq2 := hx _ hin
    have n1 : l[i].e.d.length ≤ 20 := hq2.1.1
    generalize l[i] = x at *
    have hst := fun he => hP.step (e := x.e) he (by omega) hd1 hm1
    obtain ⟨f0, f1, f2⟩ := F w4 l14
    by_cases hat2 : (i : Int) < at'
    · have dge : decide (at' ≤ (i : Int)) = false := decide_eq_false (by omega)
      have dlt : decide ((i : Int) < at') = true := decide_eq_true hat2
      have hn : nmP i at' = kA := by unfold nmP; rw [if_pos hat2]
      rw [hn] at hst
      repeat' (first | (simp (disch := omega) only [push_cast, seval, dge]) | refine iX ?_ ?_ <;> intros | refine aI (by omega) ?_ | fail)
      refine drawn_k 7 ?_
      repeat' (first | (simp (disch := omega) only [push_cast, seval, f2, c1]) | refine iX ?_ ?_ <;> intros | refine aI (by omega) ?_ | fail)
      intro w5 l5
      have l05 := l04.trans l5
      refine (jappend_c bk r s kA dv mv d m x w5 (V4.later l5) hP.hg (by decide) (h.later l05) (by omega) (by omega) (hq.1.later l05) (by omega) (by omega)).mono ?_
      rintro _ w6 ⟨rfl, V6, c6⟩
      have l26 : Later w2 w6 := Chg.later (l4.trans l5) c6 (by intro k hk; simp at hk; omega)
      have l06 := l02.trans l26
      have ho6 : OwnJ w6 w3.heap.size _ es := own_chg (ho.later l5) c6 (by intro k hk; simp at hk; omega)
      have hz6 := Nat.le_trans (Nat.le_trans hsz l5.size) c6.size
      by_cases he : rgE d.length m.length x.e = true
      case neg =>
        have ea : aJ d.length m.length kA x.e s = (191, s) := by unfold aJ; rw [if_neg he]
        rw [ea] at V6 ⊢
        repeat' (first | (simp (disch := omega) only [push_cast, seval]) | refine iX ?_ ?_ <;> intros | refine aI (by omega) ?_ | refine dq ?_)
        exact ⟨rfl, (i + 1, k, .slice oo es.length oc), by simp (disch := omega) only [push_cast, seval], ⟨by dsimp only; omega, l26, hz6, s, es, V6, ho6, hsub, hP.skip⟩, by dsimp only; omega⟩
      obtain ⟨q1, q2, hP2⟩ := hst he
      have G6 : Good (aJ d.length m.length kA x.e s).2 := aJ_good hP.hg
      rw [q1]
      obtain ⟨f0, f1, f2⟩ := F w6 (l2.trans l26)
      have c1 := c1' w6 l06
      repeat' (first | (simp (disch := omega) only [push_cast, seval]) | refine iX ?_ ?_ <;> intros | refine aI (by omega) ?_ | fail)
      refine drawn_k 6 ?_
      repeat' (first | (simp (disch := omega) only [push_cast, seval, f2, c1]) | refine iX ?_ ?_ <;> intros | refine aI (by omega) ?_ | fail)
      intro w7 l7
      have l07 := l06.trans l7
      refine (jappend_c bk r _ kAll dv mv d m x w7 (V6.later l7) G6 (by decide) (h.later l07) (by omega) (by omega) (hq.1.later l07) (by omega) (by omega)).mono ?_
      rintro _ w8 ⟨rfl, V8, c8⟩
      rw [q2]
      have l28 : Later w2 w8 := Chg.later (l26.trans l7) c8 (by intro k hk; simp at hk; omega)
      have l08 := l02.trans l28
      have ho8 : OwnJ w8 w3.heap.size _ es := own_chg (ho6.later l7) c8 (by intro k hk; simp at hk; omega)
      have hz8 := Nat.le_trans (Nat.le_trans hz6 l7.size) c8.size
      have c1 := c1' w8 l08
      have l9 := later_alloc w8 (.cells #[.bool x.e.tick, .int .i64 x.e.now, .int .i64 x.e.t, x.dv, x.kv] 43)
      have B9 := Blk.new w8 #[.bool x.e.tick, .int .i64 x.e.now, .int .i64 x.e.t, x.dv, x.kv] 43
      unfold ejC at c1
      repeat' (first | (simp (disch := omega) only [push_cast, seval, c1]) | refine iX ?_ ?_ <;> intros | refine aI (by omega) ?_ | refine dq ?_)
      refine vAppend_j (r := [x]) (ho8.later l9) (RecS.lit1 (ejC_len x) B9) (by intro e he; rw [List.mem_singleton.1 he]; exact hq.1.later (l08.trans l9)) (by rw [List.length_singleton]; omega) (Nat.le_trans hz8 l9.size) ?_
      intro v10 w10 ho10 hg10 _
      have l210 := (l28.trans l9).appended (ho8.later l9) (Nat.le_trans hs3 (Nat.le_refl _)) hg10
      have V10 := VS.grown (V8.later l9) (ho8.later l9) hg10 (by omega) (by omega)
      repeat' (first | (simp (disch := omega) only [push_cast, seval, dlt]) | refine iX ?_ ?_ <;> intros | refine aI (by omega) ?_ | refine dq ?_)
      refine ⟨rfl, (i + 1, k + 1, v10), by simp (disch := omega) only [push_cast, seval], ⟨by dsimp only; omega, l210, Nat.le_trans hz8 (Nat.le_trans l9.size hg10.size), _, es ++ [x], V10, ho10, ?_, ?_⟩, by dsimp only; omega⟩
      · intro e he
        rcases List.mem_append.1 he with he | he
        · exact hsub e he
        · rw [List.mem_singleton.1 he]; exact hin
      · dsimp only
        rw [List.map_append, List.map_singleton]
        rw [if_pos hat2] at hP2; exact hP2
    · have dge : decide (at' ≤ (i : Int)) = true := decide_eq_true (by omega)
      have dlt : decide ((i : Int) < at') = false := decide_eq_false hat2
      have hn : nmP i at' = kB := by unfold nmP; rw [if_neg hat2]
      rw [hn] at hst
      repeat' (first | (simp (disch := omega) only [push_cast, seval, dge]) | refine iX ?_ ?_ <;> intros | refine aI (by omega) ?_ | fail)
      refine drawn_k 7 ?_
      repeat' (first | (simp (disch := omega) only [push_cast, seval, f2, c1]) | refine iX ?_ ?_ <;> intros | refine aI (by omega) ?_ | fail)
      intro w5 l5
      have l05 := l04.trans l5
      refine (jappend_c bk r s kB dv mv d m x w5 (V4.later l5) hP.hg (by decide) (h.later l05) (by omega) (by omega) (hq.1.later l05) (by omega) (by omega)).mono ?_
      rintro _ w6 ⟨rfl, V6, c6⟩
      have l26 : Later w2 w6 := Chg.later (l4.trans l5) c6 (by intro k hk; simp at hk; omega)
      have l06 := l02.trans l26
      have ho6 : OwnJ w6 w3.heap.size _ es := own_chg (ho.later l5) c6 (by intro k hk; simp at hk; omega)
      have hz6 := Nat.le_trans (Nat.le_trans hsz l5.size) c6.size
      by_cases he : rgE d.length m.length x.e = true
      case neg =>
        have ea : aJ d.length m.length kB x.e s = (191, s) := by unfold aJ; rw [if_neg he]
        rw [ea] at V6 ⊢
        repeat' (first | (simp (disch := omega) only [push_cast, seval]) | refine iX ?_ ?_ <;> intros | refine aI (by omega) ?_ | refine dq ?_)
        exact ⟨rfl, (i + 1, k, .slice oo es.length oc), by simp (disch := omega) only [push_cast, seval], ⟨by dsimp only; omega, l26, hz6, s, es, V6, ho6, hsub, hP.skip⟩, by dsimp only; omega⟩
      obtain ⟨q1, q2, hP2⟩ := hst he
      have G6 : Good (aJ d.length m.length kB x.e s).2 := aJ_good hP.hg
      rw [q1]
      obtain ⟨f0, f1, f2⟩ := F w6 (l2.trans l26)
      have c1 := c1' w6 l06
      repeat' (first | (simp (disch := omega) only [push_cast, seval]) | refine iX ?_ ?_ <;> intros | refine aI (by omega) ?_ | fail)
      refine drawn_k 6 ?_
      repeat' (first | (simp (disch := omega) only [push_cast, seval, f2, c1]) | refine iX ?_ ?_ <;> intros | refine aI (by omega) ?_ | fail)
      intro w7 l7
      have l07 := l06.trans l7
      refine (jappend_c bk r _ kAll dv mv d m x w7 (V6.later l7) G6 (by decide) (h.later l07) (by omega) (by omega) (hq.1.later l07) (by omega) (by omega)).mono ?_
      rintro _ w8 ⟨rfl, V8, c8⟩
      rw [q2]
      have l28 : Later w2 w8 := Chg.later (l26.trans l7) c8 (by intro k hk; simp at hk; omega)
      have l08 := l02.trans l28
      have ho8 : OwnJ w8 w3.heap.size _ es := own_chg (ho6.later l7) c8 (by intro k hk; simp at hk; omega)
      have hz8 := Nat.le_trans (Nat.le_trans hz6 l7.size) c8.size
      have c1 := c1' w8 l08
      have l9 := later_alloc w8 (.cells #[.bool x.e.tick, .int .i64 x.e.now, .int .i64 x.e.t, x.dv, x.kv] 43)
      have B9 := Blk.new w8 #[.bool x.e.tick, .int .i64 x.e.now, .int .i64 x.e.t, x.dv, x.kv] 43
      unfold ejC at c1
      repeat' (first | (simp (disch := omega) only [push_cast, seval, c1]) | refine iX ?_ ?_ <;> intros | refine aI (by omega) ?_ | refine dq ?_)
      refine vAppend_j (r := [x]) (ho8.later l9) (RecS.lit1 (ejC_len x) B9) (by intro e he; rw [List.mem_singleton.1 he]; exact hq.1.later (l08.trans l9)) (by rw [List.length_singleton]; omega) (Nat.le_trans hz8 l9.size) ?_
      intro v10 w10 ho10 hg10 _
      have l210 := (l28.trans l9).appended (ho8.later l9) (Nat.le_trans hs3 (Nat.le_refl _)) hg10
      have V10 := VS.grown (V8.later l9) (ho8.later l9) hg10 (by omega) (by omega)
      repeat' (first | (simp (disch := omega) only [push_cast, seval, dlt]) | refine iX ?_ ?_ <;> intros | refine aI (by omega) ?_ | refine dq ?_)
      refine ⟨rfl, (i + 1, k, v10), by simp (disch := omega) only [push_cast, seval], ⟨by dsimp only; omega, l210, Nat.le_trans hz8 (Nat.le_trans l9.size hg10.size), _, es ++ [x], V10, ho10, ?_, ?_⟩, by dsimp only; omega⟩
      · intro e he
        rcases List.mem_append.1 he with he | he
        · exact hsub e he
        · rw [List.mem_singleton.1 he]; exact hin
      · dsimp only
        rw [List.map_append, List.map_singleton]
        rw [if_neg hat2] at hP2; exact hP2
  have hie : i = l.length := by omega
  clear hlt'
  have hrr := hP.hr
  have hda := hP.ha
  have hdb := hP.hb
  have hdc := hP.hc
  have hn0 : 20 + 34 * d.length + 10 * m.length ≤ 16777216 := by omega
  generalize hds : es.map Ej.e = ds at *
  have hkd : k ≤ ds.length := hP.hk
  have hdl2 : ds.length ≤ l.length := by have := hP.hl; omega
  have hra : ∀ e ∈ ds.take k, rgE d.length m.length e = true := fun e he => hrr e (List.mem_of_mem_take he)
  have hrb : ∀ e ∈ ds.drop k, rgE d.length m.length e = true := fun e he => hrr e (List.mem_of_mem_drop he)
  have la := fileE_len hd1 hm1 hra
  have lb := fileE_len hd1 hm1 hrb
  have lc := fileE_len hd1 hm1 hrr
  rw [List.length_take] at la
  rw [List.length_drop] at lb
  have hcat : (fileE ds).length = (fileE (ds.take k)).length + (fileE (ds.drop k)).length := by rw [← List.length_append, ← fileE_app, List.take_append_drop]
  obtain ⟨f0, f1, f2⟩ := F w4 l14
  repeat' (first | (simp (disch := omega) only [push_cast, seval, f2]) | refine iX ?_ ?_ <;> intros | refine aI (by omega) ?_ | refine dq ?_)
  refine (jread_c bk r s kA dv mv d m w4 V4 hP.hg (h.later l04) (by omega) (by omega) (by rw [hda]; omega)).mono ?_
  rw [hda]
  rintro _ w5 ⟨⟨xv, xs, rfl, hxo, hxs, hxm⟩, l5⟩
  have l05 := l04.trans l5
  rw [rdE_all hn0 hra] at hxm ⊢
  obtain ⟨f0, f1, f2⟩ := F w5 (l14.trans l5)
  repeat' (first | (simp (disch := omega) only [push_cast, seval, f2]) | refine iX ?_ ?_ <;> intros | refine aI (by omega) ?_ | refine dq ?_)
  refine (jread_c bk r s kB dv mv d m w5 (V4.later l5) hP.hg (h.later l05) (by omega) (by omega) (by rw [hdb]; omega)).mono ?_
  rw [hdb]
  rintro _ w6 ⟨⟨yv, ys, rfl, hyo, hys, hym⟩, l6⟩
  have l06 := l05.trans l6
  rw [rdE_all hn0 hrb] at hym ⊢
  obtain ⟨f0, f1, f2⟩ := F w6 ((l14.trans l5).trans l6)
  repeat' (first | (simp (disch := omega) only [push_cast, seval, f2]) | refine iX ?_ ?_ <;> intros | refine aI (by omega) ?_ | refine dq ?_)
  refine (jread_c bk r s kAll dv mv d m w6 (V4.later (l5.trans l6)) hP.hg (h.later l06) (by omega) (by omega) (by rw [hdc]; omega)).mono ?_
  rw [hdc]
  rintro _ w7 ⟨⟨zv, zs, rfl, hzo, hzs, hzm⟩, l7⟩
  have l07 := l06.trans l7
  rw [rdE_all hn0 hrr] at hzm ⊢
  have l57 := l6.trans l7
  have l47 := l5.trans l57
  have hsz7 := l47.size
  have hsz5 := l5.size
  have hsz6 := l6.size
  have hO := Sl.one w7 (.int .u8 128) 5
  have l8 := later_alloc w7 (.cells #[.int .u8 128] 5)
  have s8 : (w7.alloc (.cells #[.int .u8 128] 5)).heap.size = w7.heap.size + 1 := World.size_alloc w7 _
  repeat' (first | (simp (disch := omega) only [push_cast, seval]) | refine iX ?_ ?_ <;> intros | refine aI (by omega) ?_ | refine dq ?_)
  have hap : aApp kAll [128] s = (0, ⟨s.room, -1, lPut ⟨kAll, oB kAll s.L ++ [128], oS kAll s.L⟩ s.L⟩) := aApp_ok (by kernel_rfl) hP.hf (by have := hP.ht; have := hP.hroom; rw [List.length_singleton]; omega) (by have := hP.hn; omega)
  have G9 : Good (aApp kAll [128] s).2 := aApp_good hP.hg _ _
  have hd9 : oB kAll (aApp kAll [128] s).2.L = fileE ds ++ [128] := by rw [hap]; show oB kAll (lPut _ _) = _; rw [oB_put, if_pos rfl, hdc]
  refine (append_s bk r s kAll _ [128] _ ((V4.later l47).later l8) hP.hg (by decide) hO (inB_new (by omega)) (by simp)).mono ?_
  rintro _ w9 ⟨rfl, V9, c9⟩
  have lx : Later w (w7.alloc (.cells #[.int .u8 128] 5)) := l07.trans l8
  have l29 : Later w2 w9 := Chg.later ((l4.trans l47).trans l8) c9 (by intro k hk; simp at hk; omega)
  have l09 := l02.trans l29
  have ho9 : OwnJ w9 w3.heap.size _ es := own_chg ((ho.later l47).later l8) c9 (by intro k hk; simp at hk; omega)
  have hx9 : OwnJ w9 w4.heap.size xv xs := own_chg ((hxo.later l57).later l8) c9 (by intro k hk; simp at hk; omega)
  have hy9 : OwnJ w9 w5.heap.size yv ys := own_chg ((hyo.later l7).later l8) c9 (by intro k hk; simp at hk; omega)
  have hz9 : OwnJ w9 w6.heap.size zv zs := own_chg (hzo.later l8) c9 (by intro k hk; simp at hk; omega)
  have hxs9 : ∀ e ∈ xs, EjIs w9 e := fun e he => EjO.is (B := w4.heap.size) ⟨own_chg (((hxs e he).later l57).later l8).dO c9 (by intro k hk; simp at hk; omega), own_chg (((hxs e he).later l57).later l8).kO c9 (by intro k hk; simp at hk; omega)⟩
  have hys9 : ∀ e ∈ ys, EjIs w9 e := fun e he => EjO.is (B := w5.heap.size) ⟨own_chg (((hys e he).later l7).later l8).dO c9 (by intro k hk; simp at hk; omega), own_chg (((hys e he).later l7).later l8).kO c9 (by intro k hk; simp at hk; omega)⟩
  have hzs9 : ∀ e ∈ zs, EjIs w9 e := fun e he => EjO.is (B := w6.heap.size) ⟨own_chg ((hzs e he).later l8).dO c9 (by intro k hk; simp at hk; omega), own_chg ((hzs e he).later l8).kO c9 (by intro k hk; simp at hk; omega)⟩
  have hes9 : ∀ e ∈ es, EjIs w9 e := fun e he => (hes e (hsub e he)).1.later l09
  generalize (aApp kAll [128] s).2 = sB at *
  obtain ⟨f0, f1, f2⟩ := F w9 (l2.trans l29)
  repeat' (first | (simp (disch := omega) only [push_cast, seval, f2]) | refine iX ?_ ?_ <;> intros | refine aI (by omega) ?_ | refine dq ?_)
  refine (jread_c bk r sB kAll dv mv d m w9 V9 G9 (h.later l09) (by omega) (by omega) (by rw [hd9, List.length_append, List.length_singleton]; omega)).mono ?_
  rw [hd9]
  rintro _ w10 ⟨⟨uv, us, rfl, huo, hus, hum⟩, l10⟩
  have hbad : rdE d.length m.length [128] = ([], 0) := rdE_none (by kernel_rfl)
  rw [rdE_file hn0 ds [128] hrr, hbad, List.append_nil] at hum
  have hcnt : (rdE d.length m.length (fileE ds ++ [128])).2 = (fileE ds).length := by rw [rdE_file hn0 ds [128] hrr, hbad]; rfl
  rw [hcnt]
  have ho10 := OwnR.s (ho9.later l10)
  obtain ⟨_, hoc, hom, _, _⟩ := SlN.len ho10
  unfold maxLen at hom
  have hel : es.length = ds.length := by rw [← hds, List.length_map]
  have hPre := RecS.pre ejC_len ho10 (j := k) (by omega)
  have hFrm := RecS.from ejC_len ho10 (j := k) (by omega)
  have hes10 : ∀ e ∈ es, EjIs w10 e := fun e he => (hes9 e he).later l10
  repeat' (first | (simp (disch := omega) only [push_cast, seval]) | refine iX ?_ ?_ <;> intros | refine aI (by omega) ?_ | refine dq ?_)
  refine (esame_c xv _ xs (es.take k) w10 (OwnR.s (hx9.later l10)) hPre (fun e he => (hxs9 e he).later l10) (fun e he => hes10 e (List.mem_of_mem_take he))).mono ?_
  rintro _ w11 ⟨⟨t1, rfl, ht1⟩, l11⟩
  have ht1 : t1 = true := ht1.2 (by rw [hxm, List.map_take, hds])
  subst ht1
  repeat' (first | (simp (disch := omega) only [push_cast, seval]) | refine iX ?_ ?_ <;> intros | refine aI (by omega) ?_ | refine dq ?_)
  have hek : ((es.length : Int) - (k : Int)).toNat = es.length - k := by omega
  rw [hek]
  refine (esame_c yv _ ys (es.drop k) w11 (OwnR.s (hy9.later (l10.trans l11))) (hFrm.later l11) (fun e he => (hys9 e he).later (l10.trans l11)) (fun e he => (hes10 e (List.mem_of_mem_drop he)).later l11)).mono ?_
  rintro _ w12 ⟨⟨t2, rfl, ht2⟩, l12⟩
  have ht2 : t2 = true := ht2.2 (by rw [hym, List.map_drop, hds])
  subst ht2
  repeat' (first | (simp (disch := omega) only [push_cast, seval]) | refine iX ?_ ?_ <;> intros | refine aI (by omega) ?_ | refine dq ?_)
  refine (esame_c zv _ zs es w12 (OwnR.s (hz9.later ((l10.trans l11).trans l12))) (ho10.later (l11.trans l12)) (fun e he => (hzs9 e he).later ((l10.trans l11).trans l12)) (fun e he => (hes10 e he).later (l11.trans l12))).mono ?_
  rintro _ w13 ⟨⟨t3, rfl, ht3⟩, l13'⟩
  have ht3 : t3 = true := ht3.2 (by rw [hzm, hds])
  subst ht3
  repeat' (first | (simp (disch := omega) only [push_cast, seval]) | refine iX ?_ ?_ <;> intros | refine aI (by omega) ?_ | refine dq ?_)
  refine (esame_c uv _ us es w13 (OwnR.s (huo.later ((l11.trans l12).trans l13'))) (ho10.later ((l11.trans l12).trans l13')) (fun e he => ((hus e he).later ((l11.trans l12).trans l13')).is) (fun e he => (hes10 e he).later ((l11.trans l12).trans l13'))).mono ?_
  rintro _ w14 ⟨⟨t4, rfl, ht4⟩, l14'⟩
  have ht4 : t4 = true := ht4.2 (by rw [hum, hds])
  subst ht4
  repeat' (first | (simp (disch := omega) only [push_cast, seval]) | refine iX ?_ ?_ <;> intros | refine aI (by omega) ?_ | refine dq ?_)
  refine (alive19_c w14).mono ?_
  rintro _ w15 ⟨rfl, l15⟩
  have d1 : decide (((fileE ds).length : Int) = ((fileE (ds.take k)).length : Int) + ((fileE (ds.drop k)).length : Int)) = true := decide_eq_true (by omega)
  have d2 : decide (((fileE ds).length : Int) = ((fileE ds).length : Int)) = true := decide_eq_true rfl
  repeat' (first | (simp (disch := omega) only [push_cast, seval, d1, d2]) | refine iX ?_ ?_ <;> intros | refine aI (by omega) ?_ | refine dq ?_)
  exact l09.trans (((((l10.trans l11).trans l12).trans l13').trans l14').trans l15)
theorem own : ownKnob Try.prog.godebug = none := by kernel_rfl
theorem lifted (os : Os) (started : os.Started) (H : Type) (enc : TypeId × Value → H) :
    ReturnsInHanded {} Try.checked os 5 .any (Rows.journalPartsSpec.pre6 enc Try.prog Try.f5 Rows.journalPartsRow.domain false) (Rows.journalPartsSpec.post enc Try.prog Try.f5 false true false false) := by
  refine lifted_later (C := Try.checked) own started (by kernel_rfl) Try.func5 hb5
    (ChangeSpec.witness6 (enc := enc) (C := Try.checked) false ⟨#[], #[.agg #[.slice none 0 0, .slice none 0 0], .slice none 0 0, .int .i64 0], []⟩ 5 (by kernel_rfl) (by kernel_rfl) (by kernel_rfl) (by kernel_rfl))
    (by kernel_rfl) (list_all (by kernel_rfl)) (by kernel_rfl) Try.underlying4 rfl ?_ ?_
  · intro ds h
    have h : ds.length = 3 := h
    match ds, h with
    | [_, _, _], _ => rfl
  · intro W base args ds p hval0 hA0
    have hval : ∀ (j : Nat) t v, Try.f5.params[j]? = some t → args[j]? = some v → Value.okWide Try.prog W .any base t v := hval0
    have hA : DataW.TrodAll enc Try.prog W 0 (fun _ => true) true Try.f5.params.toList args.toList ds p := hA0
    rw [Try.params5] at hA hval
    obtain ⟨v0, vs0, d0, ds0, p0, q0, hargs, rfl, rfl, h0, r0⟩ := trodAll_cons hA
    obtain ⟨v1, vs1, d1, ds1, p1, q1, rfl, rfl, rfl, h1, r1⟩ := trodAll_cons r0
    obtain ⟨v2, vs2, d2, ds2, p2, q2, rfl, rfl, rfl, h2, r2⟩ := trodAll_cons r1
    obtain ⟨rfl, rfl, rfl⟩ := trodAll_nil r2
    obtain rfl : args = #[v0, v1, v2] := by cases args; simp_all
    obtain ⟨a0, rfl, w0⟩ := open_schema (hval 0 24 v0 rfl rfl) h0
    obtain ⟨a1, w1⟩ := open_entries (hval 1 33 v1 rfl rfl) h1
    obtain ⟨a2, rfl, rfl, rfl, w2⟩ := open_int Try.underlying3 (hval 2 3 v2 rfl rfl) h2
    exact law_c _ _ v1 _ _ a1 a2 W w0 w1.1 w1.2 (i64_of_wf w2)
theorem over : Rows.journalPartsRow.holds Try.pinned (OpenSpec.ofChange Rows.journalPartsSpec) :=
  OpenClaim.holds_of_wide 5 Try.f5 rfl rfl rfl rfl rfl rfl rfl ⟨rfl, rfl, rfl, rfl, rfl⟩ rfl rfl rfl rfl rfl (by kernel_rfl) Try.func5 (by kernel_rfl)
    (of_decide_eq_true (by kernel_rfl)) (by unfold Func.isWrapper; first | (rw [if_pos (by decide +kernel)]; kernel_rfl) | (rw [if_neg (by decide +kernel)]; exact ⟨rfl, rfl⟩))
    (fun os started H enc _ => lifted os started H enc)
/-- The statement. -/
theorem proved : Rows.JournalPartsSaid :=
  over
end Go.Proofs.Ytcajkjbempagaaa.journalParts
