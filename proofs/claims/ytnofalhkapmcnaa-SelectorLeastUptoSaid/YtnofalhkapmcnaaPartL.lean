/- Which cuboids answer: the program's. -/
import Derived.Test.YtnofalhkapmcnaaPartK
set_option linter.all false
open Nat renaming reduceEqDiff → zA, reducePow → zB, reduceMul → zC, reduceAdd → zD, reduceSub → zE, reduceLeDiff → zF
open Int renaming reduceToNat → zG, reducePow → zH, reduceNeg → zI, reduceMul → zJ, reduceAdd → zK, reduceSub → zL, reduceLT → zM, reduceLE → zN, reduceEq → zO, reduceMod → zP, reduceDiv → zQ
section
set_option linter.unusedSimpArgs false
namespace Go.Vc
open Go Go.RowKit
/-- What is answered of stretches: their best, or the first that none is eligible for. -/
def chooseR (E : PN → Bool) (best : PN → PN) (l : List PN) : List PN × Int × Int := match l.find? (fun x => !E x) with
  | some x => ([], x.tier, 261)
  | none => (l.map best, -1, 0)
theorem chooseR_bad {E : PN → Bool} {best : PN → PN} {l : List PN} {i : Nat} (hi : i < l.length) (hE : E l[i] = false) (hb : ∀ j (h : j < l.length), j < i → E l[j] = true) : chooseR E best l = ([], l[i].tier, 261) := by
  have : l.find? (fun x => !E x) = some l[i] := by
    rw [List.find?_eq_some_iff_getElem]
    exact ⟨by simp [hE], i, hi, rfl, fun j hj => by simp [hb j (by omega) hj]⟩
  unfold chooseR
  rw [this]
theorem chooseR_good {E : PN → Bool} {best : PN → PN} {l : List PN} (hb : ∀ x ∈ l, E x = true) : chooseR E best l = (l.map best, -1, 0) := by
  have : l.find? (fun x => !E x) = none := by
    rw [List.find?_eq_none]
    intro x hx; simp [hb x hx]
  unfold chooseR
  rw [this]
theorem strL_mem {fr to : Int} {el : List Int} {n : Nat} {x : PN} (h : x ∈ strL fr to el n) : ∃ i, i < n ∧ x = strI fr to el i ∧ x.fr < x.to := by
  unfold strL at h
  obtain ⟨h1, h2⟩ := List.mem_filter.1 h
  obtain ⟨i, hi, rfl⟩ := List.mem_map.1 h1
  exact ⟨i, List.mem_range.1 hi, rfl, of_decide_eq_true h2⟩
theorem getD_i64 {el : List Int} (h : ∀ n ∈ el, I64 n) (i : Nat) : I64 (el.getD i 0) := by
  rw [List.getD_eq_getElem?_getD]
  cases hq : el[i]? with
  | none => exact ⟨by decide, by decide⟩
  | some v => exact h v (List.mem_of_getElem? hq)
theorem strI_i64 {fr to : Int} {el : List Int} (hf : I64 fr) (ht : I64 to) (h : ∀ n ∈ el, I64 n) (i : Nat) : I64 (strI fr to el i).fr ∧ I64 (strI fr to el i).to := by
  have h1 := getD_i64 h i
  refine ⟨?_, ?_⟩
  · show I64 (max fr (el.getD i 0))
    unfold I64 at *
    omega
  · cases i with
    | zero => exact ht
    | succ i =>
      have h2 := getD_i64 h i
      show I64 (min to (el.getD i 0))
      unfold I64 at *
      omega
end Go.Vc
namespace Go.Proofs.Ytnofalhkapmcnaa
open Go.Vc Go.Key Go.Bkt
set_option maxRecDepth 100000
def bestS (d : List ByteArray) (p : PD) (q : QD) (fl : List SD) (x : PN) : PN := minN { x with rows := ownRows x fl } ((projs x fl).filter (elB d p q))
theorem cand_filter (d : List ByteArray) (p : PD) (q : QD) (fl : List SD) {x : PN} (h : elB d p q x = true) : (cand x fl).filter (elB d p q) = { x with rows := ownRows x fl } :: (projs x fl).filter (elB d p q) := by
  unfold cand
  exact List.filter_cons_of_pos h
theorem cand_in {p : PD} {x : PN} (hx : PnIn p x) {fl : List SD} (hfl : ∀ f ∈ fl, -1 ≤ f.proj ∧ f.proj < (p.pl.length : Int)) {y : PN} (hy : y ∈ cand x fl) : PnIn p y ∧ y.fr = x.fr ∧ y.to = x.to := by
  unfold cand projs at hy
  rcases List.mem_cons.1 hy with rfl | hy
  · exact ⟨⟨hx.t, hx.j⟩, rfl, rfl⟩
  · obtain ⟨f, hf, rfl⟩ := List.mem_map.1 hy
    exact ⟨⟨hx.t, hfl f (List.mem_filter.1 hf).1⟩, rfl, rfl⟩
theorem choose1_c (dv mv : Value) (d m : List ByteArray) (p : PD) (q : QD) (x : PN) (ks kp kq : Nat) (w : World) (f1 : cellsAt w ⟨ks, 0, none⟩ 2 = some [dv, mv]) (f2 : cellsAt w ⟨kp, 0, none⟩ 3 = some (pdC p)) (f3 : cellsAt w ⟨kq, 0, none⟩ 12 = some (qdC q)) (h : ScIs w dv mv d m) (hp : p.Ok w) (hq : q.Ok w) (hx : PnIn p x) (hi : QIn d q) (hf : I6 x.fr) (ht : I6 x.to) : FnC Try.prog 47 #[.agg (pnC x).toArray, pt ks, pt kp, pt kq] w fun v w' => v = .bool (!elB d p q x) ∧ Later w w' := by
  refine enter47 _ _ _ _ ?_
  unfold B47
  have eca : (Value.agg (pnC x).toArray).cells = (pnC x).toArray := rfl
  have l1 := later_alloc w (.cells (pnC x).toArray 49)
  have g : cellsAt (w.alloc (.cells (pnC x).toArray 49)) ⟨w.heap.size, 0, none⟩ 5 = some (pnC x) := Blk.cellsAt (l := pnC x) (Blk.new w _ _)
  have g1 := cellsAt_later l1 2 f1
  have g2 := cellsAt_later l1 3 f2
  have g3 := cellsAt_later l1 12 f3
  repeat' (first | (simp (disch := omega) only [push_cast, ↓reduceIte, zA, zG, zB, zH, zI, zC, zJ, zK, zL, zD, zE, zF, zM, zN, zO, zP, zQ, reduceCtorEq, not_true_eq_false, not_false_eq_true, eca, g, g1, g2, g3]) | (first | refine iE ?_ ?_ | refine iD ?_ ?_ | refine iQ ?_ ?_ | refine iV ?_ ?_) <;> intro _ | refine And.intro (by omega) ?_ | fail)
  generalize w.alloc (.cells (pnC x).toArray 49) = w1 at *
  refine (eligible_c dv mv d m p q x w1 (h.later l1) (hp.later l1) (hq.later l1) hx hi hf ht).mono ?_
  rintro _ w2 ⟨rfl, l2⟩
  repeat' (first | (simp (disch := omega) only [push_cast, ↓reduceIte, zA, zG, zB, zH, zI, zC, zJ, zK, zL, zD, zE, zF, zM, zN, zO, zP, zQ, reduceCtorEq, not_true_eq_false, not_false_eq_true]) | (first | refine iE ?_ ?_ | refine iD ?_ ?_ | refine iQ ?_ ?_ | refine iV ?_ ?_) <;> intro _ | refine And.intro (by omega) ?_ | refine drawn_q ?_ | fail)
  first | exact ⟨rfl, (l1.trans l2)⟩ | exact (l1.trans l2)
def ChV (w : World) (v : Value) (r : List PN × Int × Int) : Prop := ∃ lv, v = .tuple #[lv, .int .i64 r.2.1, .int .i64 r.2.2] ∧ RecS pnC 5 w lv r.1
set_option maxHeartbeats 4000000 in
theorem choose_c (dv mv : Value) (d m : List ByteArray) (p : PD) (ev : Value) (el : List Int) (q : QD) (fv : Value) (fl : List SD) (w : World) (h : ScIs w dv mv d m) (hp : p.Ok w) (he : Sl w ev (el.map (Value.int .i64))) (heI : ∀ n ∈ el, I64 n) (hq : q.Ok w) (hf : RecS sdC 4 w fv fl) (hfo : ∀ f ∈ fl, f.Ok)
    (hel : el.length = p.tl.length) (hF : Fall el) (hpl : p.tl.length ≤ 100) (hi : QIn d q) (hfl : fl.length ≤ 1000) (hfp : ∀ f ∈ fl, -1 ≤ f.proj ∧ f.proj < (p.pl.length : Int)) :
    FnC Try.prog 17 #[scV dv mv, .agg (pdC p).toArray, ev, .agg (qdC q).toArray, fv] w fun v w' => ChV w' v (chooseR (elB d p q) (bestS d p q fl) (strL q.fr q.to el p.tl.length)) ∧ Later w w' := by
  have esc : scV dv mv = .agg #[dv, mv] := rfl
  rw [esc]
  refine enter17 _ _ _ _ _ ?_
  unfold B17
  have eca : (Value.agg (pdC p).toArray).cells = (pdC p).toArray := rfl
  have ecb : (Value.agg #[dv, mv]).cells = #[dv, mv] := rfl
  have ecc : (Value.agg (qdC q).toArray).cells = (qdC q).toArray := rfl
  obtain ⟨k0, hk0⟩ : ∃ k0, k0 = w.heap.size := ⟨_, rfl⟩
  have la := later_alloc w (.cells #[dv, mv] 24)
  have Ba := Blk.new w #[dv, mv] 24
  have sa : (w.alloc (.cells #[dv, mv] 24)).heap.size = k0 + 1 := by rw [World.size_alloc, hk0]
  rw [← hk0] at Ba
  generalize hwa : w.alloc (.cells #[dv, mv] 24) = wa at *
  have lb := later_alloc wa (.cells (pdC p).toArray 28)
  have Bb := Blk.new wa (pdC p).toArray 28
  have sb : (wa.alloc (.cells (pdC p).toArray 28)).heap.size = k0 + 2 := by rw [World.size_alloc, sa]
  rw [sa] at Bb
  generalize hwb : wa.alloc (.cells (pdC p).toArray 28) = wb at *
  have lc := later_alloc wb (.cells (qdC q).toArray 42)
  have Bc := Blk.new wb (qdC q).toArray 42
  rw [sb] at Bc
  generalize hwc : wb.alloc (.cells (qdC q).toArray 42) = w1 at *
  repeat' (first | (simp (disch := omega) only [push_cast, ↓reduceIte, zA, zG, zB, zH, zI, zC, zJ, zK, zL, zD, zE, zF, zM, zN, zO, zP, zQ, reduceCtorEq, not_true_eq_false, not_false_eq_true, eca, ecb, ecc, hwa, sa, hwb, sb, hwc, ← hk0]) | (first | refine iE ?_ ?_ | refine iD ?_ ?_ | refine iQ ?_ ?_ | refine iV ?_ ?_) <;> intro _ | refine And.intro (by omega) ?_ | fail)
  have l01 : Later w w1 := (la.trans lb).trans lc
  have FF : ∀ w', Later w1 w' → cellsAt w' ⟨k0, 0, none⟩ 2 = some [dv, mv] ∧ cellsAt w' ⟨k0 + 1, 0, none⟩ 3 = some (pdC p) ∧ cellsAt w' ⟨k0 + 2, 0, none⟩ 12 = some (qdC q) := by
    intro w' hl
    have z1 := (Ba.chg (Chg.of_later (ks := []) ((lb.trans lc).trans hl)) (by simp))
    have z2 := pdLater Bb (lc.trans hl)
    have z3 := qdLater Bc hl
    exact ⟨Blk.cellsAt (l := [dv, mv]) z1, Blk.cellsAt (l := pdC p) z2, Blk.cellsAt (l := qdC q) z3⟩
  have hk1 : w.heap.size ≤ k0 := by omega
  clear hwa hwb hwc sa sb la lb lc Ba Bb Bc
  obtain ⟨f1, f2, f3⟩ := FF w1 (Later.refl _)
  repeat' (first | (simp (disch := omega) only [push_cast, ↓reduceIte, zA, zG, zB, zH, zI, zC, zJ, zK, zL, zD, zE, zF, zM, zN, zO, zP, zQ, reduceCtorEq, not_true_eq_false, not_false_eq_true, f2, f3]) | (first | refine iE ?_ ?_ | refine iD ?_ ?_ | refine iQ ?_ ?_ | refine iV ?_ ?_) <;> intro _ | refine And.intro (by omega) ?_ | fail)
  refine (stretches_c p ev el q w1 (hp.later l01) (Sl.later he l01) (hq.later l01) hel hF hpl).mono ?_
  rintro lv w2 ⟨hL, l2⟩
  have hLs := OwnR.s hL
  have hLl := strL_len q.fr q.to el p.tl.length
  have hLm : ∀ x ∈ strL q.fr q.to el p.tl.length, PnIn p x ∧ I6 x.fr ∧ I6 x.to := by
    intro x hx
    obtain ⟨i, hi, rfl, _⟩ := strL_mem hx
    have := strI_i64 (el := el) hq.fr hq.to heI i
    exact ⟨⟨by show (0 : Int) ≤ (i : Int) ∧ (i : Int) < _; omega, by show (-1 : Int) ≤ -1 ∧ (-1 : Int) < _; omega⟩, this.1, this.2⟩
  generalize strL q.fr q.to el p.tl.length = L at *
  obtain ⟨lo, lc, rfl, hl1, hl2⟩ := hLs.slice
  have l02 := l01.trans l2
  repeat' (first | (simp (disch := omega) only [push_cast, ↓reduceIte, zA, zG, zB, zH, zI, zC, zJ, zK, zL, zD, zE, zF, zM, zN, zO, zP, zQ, reduceCtorEq, not_true_eq_false, not_false_eq_true]) | (first | refine iE ?_ ?_ | refine iD ?_ ?_ | refine iQ ?_ ?_ | refine iV ?_ ?_) <;> intro _ | refine And.intro (by omega) ?_ | fail)
  refine vc_loop W17_0 (fun p : Nat × Value => [(13, p.2), (22, .int .i64 (p.1 : Int))]) (fun r w' => r.1 ≤ L.length ∧ Later w2 w' ∧ OwnN w' w2.heap.size r.2 ((L.take r.1).map (bestS d p q fl)) ∧ ∀ j (h : j < L.length), j < r.1 → elB d p q L[j] = true) (fun r => L.length - r.1) (0, .slice none 0 0) (by decide) ?_ ?_ ?_
  · simp (disch := omega) only [push_cast, ↓reduceIte, zA, zG, zB, zH, zI, zC, zJ, zK, zL, zD, zE, zF, zM, zN, zO, zP, zQ, reduceCtorEq, not_true_eq_false, not_false_eq_true]
    try rfl
  · exact ⟨Nat.zero_le _, Later.refl _, OwnR.nil _ _ _, fun j _ h => absurd h (Nat.not_lt_zero _)⟩
  rintro ⟨i, ov⟩ uu w3 ⟨hi', l3, ho, hE⟩
  dsimp only at hi' ho hE ⊢
  by_cases hik : i < L.length
  · have hd2 : decide ((i : Int) < (L.length : Int)) = true := decide_eq_true (by omega)
    obtain ⟨a, rfl, fa⟩ := RecS.at pnC_len (hLs.later l3) hik
    obtain ⟨hxin, hxf, hxt⟩ := hLm _ (List.getElem_mem hik)
    have hbad := chooseR_bad (E := elB d p q) (best := bestS d p q fl) hik
    have htk : (L.take (i + 1)).map (bestS d p q fl) = (L.take i).map (bestS d p q fl) ++ [bestS d p q fl L[i]] := by rw [List.take_succ_eq_append_getElem hik, List.map_append]; rfl
    have hEs : elB d p q L[i] = true → ∀ j (h : j < L.length), j < i + 1 → elB d p q L[j] = true := fun hx j h hj => by
      by_cases hji : j < i
      · exact hE j h hji
      · have : j = i := by omega
        subst this; exact hx
    generalize L[i] = x at *
    repeat' (first | (simp (disch := omega) only [push_cast, ↓reduceIte, zA, zG, zB, zH, zI, zC, zJ, zK, zL, zD, zE, zF, zM, zN, zO, zP, zQ, reduceCtorEq, not_true_eq_false, not_false_eq_true, hd2, fa, addr_add_eq, Nat.zero_add]) | (first | refine iE ?_ ?_ | refine iD ?_ ?_ | refine iQ ?_ ?_ | refine iV ?_ ?_) <;> intro _ | refine And.intro (by omega) ?_ | fail)
    refine vStore_new rfl rfl (fun u hu => pnC_one x u (by simpa using hu)) ?_
    have l4 := later_alloc w3 (.cells (pnC x).toArray 49)
    have B4 := Blk.new w3 (pnC x).toArray 49
    generalize w3.alloc (.cells (pnC x).toArray 49) = w4 at *
    generalize w3.heap.size = kx at *
    have l24 := l3.trans l4
    have l14 := l2.trans l24
    have l04 := l01.trans l14
    obtain ⟨f1, f2, f3⟩ := FF w4 l14
    have fx : cellsAt w4 ⟨kx, 0, none⟩ 5 = some (pnC x) := Blk.cellsAt (l := pnC x) B4
    repeat' (first | (simp (disch := omega) only [push_cast, ↓reduceIte, zA, zG, zB, zH, zI, zC, zJ, zK, zL, zD, zE, zF, zM, zN, zO, zP, zQ, reduceCtorEq, not_true_eq_false, not_false_eq_true, f1, f2, f3, fx]) | (first | refine iE ?_ ?_ | refine iD ?_ ?_ | refine iQ ?_ ?_ | refine iV ?_ ?_) <;> intro _ | refine And.intro (by omega) ?_ | fail)
    refine (eligible_c dv mv d m p q x w4 (h.later l04) (hp.later l04) (hq.later l04) hxin hi hxf hxt).mono ?_
    rintro _ w5 ⟨rfl, l5⟩
    have l25 := l24.trans l5
    have l15 := l14.trans l5
    have l05 := l04.trans l5
    have B5 := B4.chg (Chg.of_later (ks := []) l5) (by simp)
    obtain ⟨_, _, b2, _, _⟩ := pnB B5
    have fx5 := cellsAt_later l5 5 fx
    cases hel' : elB d p q x with
    | false =>
      rw [hbad hel' hE]
      repeat' (first | (simp (disch := omega) only [push_cast, ↓reduceIte, zA, zG, zB, zH, zI, zC, zJ, zK, zL, zD, zE, zF, zM, zN, zO, zP, zQ, reduceCtorEq, not_true_eq_false, not_false_eq_true]) | (first | refine iE ?_ ?_ | refine iD ?_ ?_ | refine iQ ?_ ?_ | refine iV ?_ ?_) <;> intro _ | refine And.intro (by omega) ?_ | fail)
      refine drawn_q ?_
      repeat' (first | (simp (disch := omega) only [push_cast, ↓reduceIte, zA, zG, zB, zH, zI, zC, zJ, zK, zL, zD, zE, zF, zM, zN, zO, zP, zQ, reduceCtorEq, not_true_eq_false, not_false_eq_true, b2, addr_add_eq, Nat.zero_add]) | (first | refine iE ?_ ?_ | refine iD ?_ ?_ | refine iQ ?_ ?_ | refine iV ?_ ?_) <;> intro _ | refine And.intro (by omega) ?_ | fail)
      intro w6 l6
      repeat' (first | (simp (disch := omega) only [push_cast, ↓reduceIte, zA, zG, zB, zH, zI, zC, zJ, zK, zL, zD, zE, zF, zM, zN, zO, zP, zQ, reduceCtorEq, not_true_eq_false, not_false_eq_true]) | (first | refine iE ?_ ?_ | refine iD ?_ ?_ | refine iQ ?_ ?_ | refine iV ?_ ?_) <;> intro _ | refine And.intro (by omega) ?_ | refine drawn_q ?_ | fail)
      first | exact ⟨⟨_, rfl, RecS.nil _⟩, l05.trans l6⟩ | trace_state
    | true =>
    repeat' (first | (simp (disch := omega) only [push_cast, ↓reduceIte, zA, zG, zB, zH, zI, zC, zJ, zK, zL, zD, zE, zF, zM, zN, zO, zP, zQ, reduceCtorEq, not_true_eq_false, not_false_eq_true, fx5]) | (first | refine iE ?_ ?_ | refine iD ?_ ?_ | refine iQ ?_ ?_ | refine iV ?_ ?_) <;> intro _ | refine And.intro (by omega) ?_ | fail)
    refine (candidates_c x fv fl w5 (hf.later l05) hfo hfl).mono ?_
    rintro cv w6 ⟨hcv, l6⟩
    have l16 := l15.trans l6
    have l06 := l05.trans l6
    have hcl := cand_len x fl
    have hpr : ∀ y ∈ cand x fl, Prd Try.prog w5 47 #[pt k0, pt (k0 + 1), pt (k0 + 2)] (.agg (pnC y).toArray) (!elB d p q y) := by
      intro y hy w' hl
      obtain ⟨hyi, hyf, hyt⟩ := cand_in hxin hfp hy
      obtain ⟨f1, f2, f3⟩ := FF w' (l15.trans hl)
      have l0' := l05.trans hl
      exact choose1_c dv mv d m p q y k0 (k0 + 1) (k0 + 2) w' f1 f2 f3 (h.later l0') (hp.later l0') (hq.later l0') hyi hi (by rw [hyf]; exact hxf) (by rw [hyt]; exact hxt)
    repeat' (first | (simp (disch := omega) only [push_cast, ↓reduceIte, zA, zG, zB, zH, zI, zC, zJ, zK, zL, zD, zE, zF, zM, zN, zO, zP, zQ, reduceCtorEq, not_true_eq_false, not_false_eq_true]) | (first | refine iE ?_ ?_ | refine iD ?_ ?_ | refine iQ ?_ ?_ | refine iV ?_ ?_) <;> intro _ | refine And.intro (by omega) ?_ | fail)
    refine (pdelete_c w5.heap.size cv (cand x fl) 47 #[pt k0, pt (k0 + 1), pt (k0 + 2)] (fun y => !elB d p q y) w5 w6 l6 (Nat.le_refl _) hcv hpr (by omega)).mono ?_
    rintro dl w7 ⟨hdl, l7⟩
    have hfil : (cand x fl).filter (fun y => !!elB d p q y) = { x with rows := ownRows x fl } :: (projs x fl).filter (elB d p q) := by
      rw [← cand_filter d p q fl hel']
      congr 1
      funext y
      simp
    rw [hfil] at hdl
    have l27 := l25.trans l7
    repeat' (first | (simp (disch := omega) only [push_cast, ↓reduceIte, zA, zG, zB, zH, zI, zC, zJ, zK, zL, zD, zE, zF, zM, zN, zO, zP, zQ, reduceCtorEq, not_true_eq_false, not_false_eq_true]) | (first | refine iE ?_ ?_ | refine iD ?_ ?_ | refine iQ ?_ ?_ | refine iV ?_ ?_) <;> intro _ | refine And.intro (by omega) ?_ | fail)
    refine (minFunc_c dl _ _ w7 hdl).mono ?_
    rintro _ w8 ⟨rfl, l8⟩
    have hbs : minN { x with rows := ownRows x fl } ((projs x fl).filter (elB d p q)) = bestS d p q fl x := rfl
    rw [hbs]
    generalize bestS d p q fl x = X at *
    have l28 := l27.trans l8
    have ho8 := ho.later (l4.trans (l5.trans (l7.trans l8)))
    repeat' (first | (simp (disch := omega) only [push_cast, ↓reduceIte, zA, zG, zB, zH, zI, zC, zJ, zK, zL, zD, zE, zF, zM, zN, zO, zP, zQ, reduceCtorEq, not_true_eq_false, not_false_eq_true]) | (first | refine iE ?_ ?_ | refine iD ?_ ?_ | refine iQ ?_ ?_ | refine iV ?_ ?_) <;> intro _ | refine And.intro (by omega) ?_ | fail)
    have la := later_alloc w8 (.cells (pnC X).toArray 49)
    have Bl := Blk.new w8 (pnC X).toArray 49
    generalize w8.alloc (.cells (pnC X).toArray 49) = w9 at *
    have ho9 := ho8.later la
    refine vAppend_pn (r := [X]) ho9 (RecS.lit1 (pnC_len X) Bl) (by simp only [List.length_map, List.length_take, List.length_cons, List.length_nil]; omega) (Nat.le_trans l28.size la.size) ?_
    intro v' w10 ho10 hg _
    have l10 := (l28.trans la).appended ho9 (Nat.le_refl _) hg
    repeat' (first | (simp (disch := omega) only [push_cast, ↓reduceIte, zA, zG, zB, zH, zI, zC, zJ, zK, zL, zD, zE, zF, zM, zN, zO, zP, zQ, reduceCtorEq, not_true_eq_false, not_false_eq_true]) | (first | refine iE ?_ ?_ | refine iD ?_ ?_ | refine iQ ?_ ?_ | refine iV ?_ ?_) <;> intro _ | refine And.intro (by omega) ?_ | fail)
    refine ⟨rfl, (i + 1, v'), by simp (disch := omega) only [push_cast, ↓reduceIte, zA, zG, zB, zH, zI, zC, zJ, zK, zL, zD, zE, zF, zM, zN, zO, zP, zQ, reduceCtorEq, not_true_eq_false, not_false_eq_true], ⟨by dsimp only; omega, l10, by dsimp only; rw [htk]; exact ho10, hEs hel'⟩, by dsimp only; omega⟩
  · have hd2 : decide ((i : Int) < (L.length : Int)) = false := decide_eq_false (by omega)
    rw [List.take_of_length_le (by omega)] at ho
    have hg : chooseR (elB d p q) (bestS d p q fl) L = (L.map (bestS d p q fl), -1, 0) := chooseR_good fun x hx => by
      obtain ⟨j, hj, rfl⟩ := List.getElem_of_mem hx
      exact hE j hj (by omega)
    rw [hg]
    repeat' (first | (simp (disch := omega) only [push_cast, ↓reduceIte, zA, zG, zB, zH, zI, zC, zJ, zK, zL, zD, zE, zF, zM, zN, zO, zP, zQ, reduceCtorEq, not_true_eq_false, not_false_eq_true, hd2]) | (first | refine iE ?_ ?_ | refine iD ?_ ?_ | refine iQ ?_ ?_ | refine iV ?_ ?_) <;> intro _ | refine And.intro (by omega) ?_ | fail)
    exact ⟨⟨_, rfl, OwnR.s ho⟩, l02.trans l3⟩
end Go.Proofs.Ytnofalhkapmcnaa
end
section
set_option linter.unusedSimpArgs false
namespace Go.Vc
open Go Go.RowKit
def isF (t k : Int) (f : SD) : Bool := decide (f.tier = t) && decide (f.proj = k)
/-- How many rows a cuboid's file has. -/
def rowsF (fl : List SD) (t k : Int) : Option Int := (fl.find? (isF t k)).map (·.rows)
end Go.Vc
namespace Go.Proofs.Ytnofalhkapmcnaa
open Go.Vc Go.Key Go.Bkt
set_option maxRecDepth 100000
/-- One projection looked at. -/
def stepD (d : List ByteArray) (p : PD) (q : QD) (fl : List SD) (x b : PN) (k : Nat) : PN :=
  if ((p.pl.getD k default).a = x.tier ∧ (rowsF fl x.tier (k : Int)).isSome = true ∧ (rowsF fl x.tier (k : Int)).getD 0 < b.rows) ∧ elB d p q { x with proj := (k : Int), rows := (rowsF fl x.tier (k : Int)).getD 0 } = true then { x with proj := (k : Int), rows := (rowsF fl x.tier (k : Int)).getD 0 } else b
def bestD (d : List ByteArray) (p : PD) (q : QD) (fl : List SD) (x : PN) (n : Nat) : PN := (List.range n).foldl (stepD d p q fl x) { x with rows := (rowsF fl x.tier (-1)).getD 0 }
theorem bestD_succ (d : List ByteArray) (p : PD) (q : QD) (fl : List SD) (x : PN) (n : Nat) : bestD d p q fl x (n + 1) = stepD d p q fl x (bestD d p q fl x n) n := by
  unfold bestD
  rw [List.range_succ, List.foldl_append]; rfl
end Go.Proofs.Ytnofalhkapmcnaa
end
section
namespace Go.Vc
open Go
theorem ltN_iff {a b : PN} : ltN a b = true ↔ (a.rows < b.rows ∨ a.rows = b.rows ∧ a.proj < b.proj) := by
  unfold ltN; exact decide_eq_true_iff
theorem ltN_no {a b : PN} : ltN a b = false ↔ ¬ (a.rows < b.rows ∨ a.rows = b.rows ∧ a.proj < b.proj) := by
  unfold ltN; exact decide_eq_false_iff_not
theorem minN_spec : ∀ (l : List PN) (m : PN), minN m l ∈ m :: l ∧ ∀ y ∈ m :: l, ltN y (minN m l) = false
  | [], m => by
    refine ⟨by simp [minN], fun y hy => ?_⟩
    rw [List.mem_singleton.1 hy]
    show ltN m m = false
    exact ltN_no.2 (by omega)
  | x :: l, m => by
    have e : minN m (x :: l) = minN (if ltN x m then x else m) l := rfl
    rw [e]
    obtain ⟨h1, h2⟩ := minN_spec l (if ltN x m then x else m)
    generalize hM : minN (if ltN x m then x else m) l = M at *
    by_cases hc : ltN x m = true
    · rw [if_pos hc] at h1 h2
      rw [ltN_iff] at hc
      refine ⟨List.mem_cons_of_mem _ h1, fun y hy => ?_⟩
      rcases List.mem_cons.1 hy with rfl | hy
      · have := ltN_no.1 (h2 x List.mem_cons_self)
        exact ltN_no.2 (by omega)
      · exact h2 y hy
    · rw [if_neg hc] at h1 h2
      have hc := ltN_no.1 (by simpa using hc)
      refine ⟨?_, fun y hy => ?_⟩
      · rcases List.mem_cons.1 h1 with h | h
        · rw [h]; exact List.mem_cons_self
        · exact List.mem_cons_of_mem _ (List.mem_cons_of_mem _ h)
      · rcases List.mem_cons.1 hy with rfl | hy
        · exact h2 _ List.mem_cons_self
        · rcases List.mem_cons.1 hy with rfl | hy
          · have := ltN_no.1 (h2 m List.mem_cons_self)
            exact ltN_no.2 (by omega)
          · exact h2 y (List.mem_cons_of_mem _ hy)
/-- No two files of one cuboid. -/
def Apart (fl : List SD) : Prop := fl.Pairwise fun f g => ¬ (f.tier = g.tier ∧ f.proj = g.proj)
theorem isF_iff {t k : Int} {f : SD} : isF t k f = true ↔ f.tier = t ∧ f.proj = k := by simp [isF]
theorem rowsF_some {fl : List SD} {t k n : Int} (h : rowsF fl t k = some n) : ∃ f ∈ fl, f.tier = t ∧ f.proj = k ∧ f.rows = n := by
  unfold rowsF at h
  cases hf : fl.find? (isF t k) with
  | none => rw [hf] at h; cases h
  | some f =>
    rw [hf] at h
    have h := Option.some.inj h
    have h1 := List.find?_some hf
    exact ⟨f, List.mem_of_find?_eq_some hf, (isF_iff.1 h1).1, (isF_iff.1 h1).2, h⟩
theorem rowsF_of {fl : List SD} (ha : Apart fl) {f : SD} (hf : f ∈ fl) : rowsF fl f.tier f.proj = some f.rows := by
  induction fl with
  | nil => cases hf
  | cons g fl ih =>
    unfold Apart at ha
    rw [List.pairwise_cons] at ha
    unfold rowsF
    by_cases hg : g.tier = f.tier ∧ g.proj = f.proj
    · rw [List.find?_cons_of_pos (isF_iff.2 hg)]
      rcases List.mem_cons.1 hf with rfl | hf
      · rfl
      · exact absurd hg (ha.1 f hf)
    · rw [List.find?_cons_of_neg (by rw [isF_iff]; exact hg)]
      rcases List.mem_cons.1 hf with rfl | hf
      · exact absurd ⟨rfl, rfl⟩ hg
      · exact ih ha.2 hf
theorem ownRows_is {x : PN} : ∀ {fl : List SD} (r : Int), Apart fl → fl.foldl (fun r f => if f.tier = x.tier ∧ f.proj = -1 then f.rows else r) r = (rowsF fl x.tier (-1)).getD r := by
  intro fl
  induction fl with
  | nil => intro r _; rfl
  | cons g fl ih =>
    intro r ha
    unfold Apart at ha
    rw [List.pairwise_cons] at ha
    rw [List.foldl_cons, ih _ ha.2]
    by_cases hg : g.tier = x.tier ∧ g.proj = -1
    · rw [if_pos hg]
      have h1 : rowsF (g :: fl) x.tier (-1) = some g.rows := by
        unfold rowsF
        rw [List.find?_cons_of_pos (isF_iff.2 hg)]; rfl
      rw [h1]
      cases hr : rowsF fl x.tier (-1) with
      | none => rfl
      | some n =>
        obtain ⟨f, hf, h2, h3, _⟩ := rowsF_some hr
        exact absurd ⟨hg.1.trans h2.symm, hg.2.trans h3.symm⟩ (ha.1 f hf)
    · rw [if_neg hg]
      have h1 : rowsF (g :: fl) x.tier (-1) = rowsF fl x.tier (-1) := by
        unfold rowsF
        rw [List.find?_cons_of_neg (by rw [isF_iff]; exact hg)]
      rw [h1]
end Go.Vc
namespace Go.Proofs.Ytnofalhkapmcnaa
open Go.Vc Go.Key
/-- The plans that may be. -/
def MayB (d : List ByteArray) (p : PD) (q : QD) (fl : List SD) (x : PN) (n : Nat) (y : PN) : Prop :=
  y = { x with rows := (rowsF fl x.tier (-1)).getD 0 } ∨ ∃ f ∈ fl, f.tier = x.tier ∧ f.proj ≠ -1 ∧ f.proj < (n : Int) ∧ y = { x with proj := f.proj, rows := f.rows } ∧ elB d p q y = true
structure FilesIn (p : PD) (fl : List SD) : Prop where
  a : Apart fl
  j : ∀ f ∈ fl, -1 ≤ f.proj ∧ f.proj < (p.pl.length : Int)
  t : ∀ f ∈ fl, f.proj ≠ -1 → (p.pl.getD f.proj.toNat default).a = f.tier
theorem bestD_spec {d : List ByteArray} {p : PD} {q : QD} {fl : List SD} {x : PN} (hf : FilesIn p fl) (hx : x.proj = -1) : ∀ n : Nat, MayB d p q fl x n (bestD d p q fl x n) ∧ (∀ y, MayB d p q fl x n y → ltN y (bestD d p q fl x n) = false) ∧ (bestD d p q fl x n).proj < (n : Int) := by
  intro n
  induction n with
  | zero =>
    refine ⟨.inl rfl, fun y hy => ?_, by show x.proj < 0; omega⟩
    rcases hy with rfl | ⟨f, hfm, _, h1, h2, _⟩
    · exact ltN_no.2 (by show ¬ (_ < _ ∨ _); simp [bestD])
    · have := (hf.j f hfm).1; omega
  | succ n ih =>
    obtain ⟨h1, h2, h3⟩ := ih
    have hmono : ∀ y, MayB d p q fl x n y → MayB d p q fl x (n + 1) y := by
      rintro y (h | ⟨f, a, b, c, e, g⟩)
      · exact .inl h
      · exact .inr ⟨f, a, b, c, by omega, g⟩
    rw [bestD_succ]
    generalize bestD d p q fl x n = b at *
    unfold stepD
    split
    · rename_i hc
      obtain ⟨⟨c1, c2, c3⟩, c4⟩ := hc
      obtain ⟨N, hN⟩ : ∃ N, rowsF fl x.tier (n : Int) = some N := Option.isSome_iff_exists.1 c2
      rw [hN] at c3 c4
      rw [hN]
      simp only [Option.getD_some] at c3 c4 ⊢
      obtain ⟨f, hfm, f1, f2, f3⟩ := rowsF_some hN
      refine ⟨.inr ⟨f, hfm, f1, by omega, by omega, by rw [f2, f3], c4⟩, fun y hy => ?_, by show (n : Int) < _; omega⟩
      have hr : ∀ y, MayB d p q fl x n y → ltN y { x with proj := (n : Int), rows := N } = false := fun y hy => by
        have := ltN_no.1 (h2 y hy)
        exact ltN_no.2 (by show ¬ (y.rows < N ∨ y.rows = N ∧ y.proj < (n : Int)); omega)
      rcases hy with h | ⟨g, gm, g1, g2, g3, g4, g5⟩
      · exact hr y (.inl h)
      · by_cases hgn : g.proj < (n : Int)
        · exact hr y (.inr ⟨g, gm, g1, g2, hgn, g4, g5⟩)
        · have hgp : g.proj = (n : Int) := by omega
          have := rowsF_of hf.a gm
          rw [g1, hgp, hN] at this
          have := Option.some.inj this
          rw [g4]
          exact ltN_no.2 (by show ¬ (g.rows < N ∨ g.rows = N ∧ g.proj < (n : Int)); omega)
    · rename_i hc
      refine ⟨hmono _ h1, fun y hy => ?_, by omega⟩
      rcases hy with h | ⟨g, gm, g1, g2, g3, g4, g5⟩
      · exact h2 y (.inl h)
      · by_cases hgn : g.proj < (n : Int)
        · exact h2 y (.inr ⟨g, gm, g1, g2, hgn, g4, g5⟩)
        · have hgp : g.proj = (n : Int) := by omega
          have hr := rowsF_of hf.a gm
          rw [g1, hgp] at hr
          have ht := hf.t g gm g2
          rw [hgp, Int.toNat_natCast, g1] at ht
          subst g4
          refine ltN_no.2 fun hlt => hc ?_
          have hlt : g.rows < b.rows ∨ g.rows = b.rows ∧ g.proj < b.proj := hlt
          rw [hr]
          simp only [Option.getD_some, Option.isSome_some]
          rw [hgp] at g5
          exact ⟨⟨ht, trivial, by omega⟩, g5⟩
theorem bestS_is {d : List ByteArray} {p : PD} {q : QD} {fl : List SD} {x : PN} (hf : FilesIn p fl) (hx : x.proj = -1) (hr : x.rows = 0) : bestS d p q fl x = bestD d p q fl x p.pl.length := by
  obtain ⟨h1, h2, _⟩ := bestD_spec (d := d) (q := q) hf hx p.pl.length
  have ho : ownRows x fl = (rowsF fl x.tier (-1)).getD 0 := by
    unfold ownRows
    rw [ownRows_is _ hf.a, hr]
  have hm : ∀ y, MayB d p q fl x p.pl.length y ↔ y ∈ ({ x with rows := ownRows x fl } : PN) :: (projs x fl).filter (elB d p q) := by
    intro y
    rw [ho]
    constructor
    · rintro (rfl | ⟨f, fm, f1, f2, f3, rfl, f5⟩)
      · exact List.mem_cons_self
      · exact List.mem_cons_of_mem _ (List.mem_filter.2 ⟨List.mem_map.2 ⟨f, List.mem_filter.2 ⟨fm, decide_eq_true ⟨f1, f2⟩⟩, rfl⟩, f5⟩)
    · intro h
      rcases List.mem_cons.1 h with rfl | h
      · exact .inl rfl
      · obtain ⟨ha, hb⟩ := List.mem_filter.1 h
        obtain ⟨f, hfm, rfl⟩ := List.mem_map.1 ha
        obtain ⟨fm, fd⟩ := List.mem_filter.1 hfm
        have fd := of_decide_eq_true fd
        exact .inr ⟨f, fm, fd.1, fd.2, (hf.j f fm).2, rfl, hb⟩
  obtain ⟨k1, k2⟩ := minN_spec ((projs x fl).filter (elB d p q)) { x with rows := ownRows x fl }
  have hb : minN { x with rows := ownRows x fl } ((projs x fl).filter (elB d p q)) = bestS d p q fl x := rfl
  rw [hb] at k1 k2
  have e1 := ltN_no.1 (h2 _ ((hm _).2 k1))
  have e2 := ltN_no.1 (k2 _ ((hm _).1 h1))
  have shape : ∀ y, MayB d p q fl x p.pl.length y → y = { x with proj := y.proj, rows := y.rows } := by
    rintro y (rfl | ⟨f, _, _, _, _, rfl, _⟩) <;> rfl
  rw [shape _ ((hm _).2 k1), shape _ h1]
  have r1 : (bestS d p q fl x).rows = (bestD d p q fl x p.pl.length).rows := by omega
  have r2 : (bestS d p q fl x).proj = (bestD d p q fl x p.pl.length).proj := by omega
  rw [r1, r2]
end Go.Proofs.Ytnofalhkapmcnaa
end
section
set_option linter.unusedSimpArgs false
namespace Go.Vc
open Go Go.Key
theorem apart_of {fl : List SD} (h : ∀ i j (hi : i < fl.length) (hj : j < fl.length), j < i → ¬ (fl[j].tier = fl[i].tier ∧ fl[j].proj = fl[i].proj)) : Apart fl := by
  unfold Apart
  rw [List.pairwise_iff_getElem]
  intro j i hj hi hji
  exact h i j hi hj hji
end Go.Vc
namespace Go.Proofs.Ytnofalhkapmcnaa
open Go.Vc Go.Key Go.Cub
set_option maxRecDepth 100000
theorem filesIn_of {p : PD} {fl : List SD} (h1 : ∀ i (hi : i < fl.length), FlOk p fl[i]) (h2 : Apart fl) : FilesIn p fl := by
  have all : ∀ f ∈ fl, FlOk p f := fun f hf => by
    obtain ⟨i, hi, rfl⟩ := List.getElem_of_mem hf
    exact h1 i hi
  refine ⟨h2, fun f hf => (all f hf).proj, fun f hf hp => ?_⟩
  obtain ⟨h, e⟩ := (all f hf).of hp
  rw [List.getD_eq_getElem?_getD, List.getElem?_eq_getElem h]
  exact e
set_option maxHeartbeats 4000000 in
theorem files_c (m : MD) (w : World) (hm : m.Ok w) : FnC Try.prog 58 #[.agg (mdC m).toArray] w fun v w' => (∃ b : Bool, v = .bool b ∧ (b = true → FilesIn m.p m.fl ∧ m.fl.length ≤ 40)) ∧ Later w w' := by
  obtain ⟨fo, fc, hfv, hf1, hf2⟩ := RecS.slice hm.fv
  have fail : ∀ (w' : World), Later w w' → (∃ b : Bool, Value.bool false = .bool b ∧ (b = true → FilesIn m.p m.fl ∧ m.fl.length ≤ 40)) ∧ Later w w' := fun w' hl => ⟨⟨false, rfl, fun h => by cases h⟩, hl⟩
  refine enter58 _ ?_
  unfold B58
  have eca : (Value.agg (mdC m).toArray).cells = (mdC m).toArray := rfl
  have l1 := later_alloc w (.cells (mdC m).toArray 34)
  have B1 := Blk.new w (mdC m).toArray 34
  repeat' (first | (simp (disch := omega) only [push_cast, ↓reduceIte, zA, zG, zB, zH, zI, zC, zJ, zK, zL, zD, zE, zF, zM, zN, zO, zP, zQ, reduceCtorEq, not_true_eq_false, not_false_eq_true, eca]) | (first | refine iE ?_ ?_ | refine iD ?_ ?_ | refine iQ ?_ ?_ | refine iV ?_ ?_) <;> intro _ | refine And.intro (by omega) ?_ | fail)
  generalize w.alloc (.cells (mdC m).toArray 34) = w1 at *
  generalize hkf : w.heap.size = kf at *
  have FF : ∀ w', Later w1 w' → cellsAt w' ⟨kf, 2, none⟩ 3 = some (pdC m.p) ∧ w'.cell? ⟨kf, 9, none⟩ = some (.slice fo m.fl.length fc) ∧ w'.cell? ⟨kf, 10, none⟩ = some (.string m.jn) := by
    intro w' hl
    have B := mdLater B1 hl
    obtain ⟨_, _, h3, _⟩ := mdAt B
    refine ⟨h3, ?_, B.cell 10⟩
    rw [← hfv]
    exact B.cell 9
  refine vc_loop W58_0 (fun i : Nat => [(2, .bool false), (3, .int .i64 (i : Int))]) (fun i w' => i ≤ m.fl.length ∧ Later w1 w' ∧ (∀ j (h : j < m.fl.length), j < i → FlOk m.p m.fl[j]) ∧ ∀ a b (ha : a < m.fl.length) (hb : b < m.fl.length), a < i → b < a → ¬ (m.fl[b].tier = m.fl[a].tier ∧ m.fl[b].proj = m.fl[a].proj)) (fun i => m.fl.length - i) 0 (by decide) ?_ ?_ ?_
  · simp (disch := omega) only [push_cast, ↓reduceIte, zA, zG, zB, zH, zI, zC, zJ, zK, zL, zD, zE, zF, zM, zN, zO, zP, zQ, reduceCtorEq, not_true_eq_false, not_false_eq_true]
    try rfl
  · exact ⟨Nat.zero_le _, Later.refl _, fun j _ h => absurd h (Nat.not_lt_zero _), fun a b _ _ h => absurd h (Nat.not_lt_zero _)⟩
  rintro i uu w2 ⟨hi, l2, hok, hap⟩
  obtain ⟨f1, f2, f3⟩ := FF w2 l2
  by_cases hik : i < m.fl.length
  · have hd2 : decide ((i : Int) < (m.fl.length : Int)) = true := decide_eq_true (by omega)
    have hfs := hm.fv
    rw [hfv] at hfs
    obtain ⟨a, rfl, fa⟩ := RecS.at sdC_len (hfs.later (l1.trans l2)) hik
    have hsok := hm.fl _ (List.getElem_mem hik)
    repeat' (first | (simp (disch := omega) only [push_cast, ↓reduceIte, zA, zG, zB, zH, zI, zC, zJ, zK, zL, zD, zE, zF, zM, zN, zO, zP, zQ, reduceCtorEq, not_true_eq_false, not_false_eq_true, f2, hd2, addr_add_eq, Nat.zero_add]) | (first | refine iE ?_ ?_ | refine iD ?_ ?_ | refine iQ ?_ ?_ | refine iV ?_ ?_) <;> intro _ | refine And.intro (by omega) ?_ | fail)
    refine drawn_k 7 ?_
    repeat' (first | (simp (disch := omega) only [push_cast, ↓reduceIte, zA, zG, zB, zH, zI, zC, zJ, zK, zL, zD, zE, zF, zM, zN, zO, zP, zQ, reduceCtorEq, not_true_eq_false, not_false_eq_true, f1, f2, fa, hd2, addr_add_eq, Nat.zero_add]) | (first | refine iE ?_ ?_ | refine iD ?_ ?_ | refine iQ ?_ ?_ | refine iV ?_ ?_) <;> intro _ | refine And.intro (by omega) ?_ | fail)
    intro w3 l3
    repeat' (first | (simp (disch := omega) only [push_cast, ↓reduceIte, zA, zG, zB, zH, zI, zC, zJ, zK, zL, zD, zE, zF, zM, zN, zO, zP, zQ, reduceCtorEq, not_true_eq_false, not_false_eq_true]) | (first | refine iE ?_ ?_ | refine iD ?_ ?_ | refine iQ ?_ ?_ | refine iV ?_ ?_) <;> intro _ | refine And.intro (by omega) ?_ | fail)
    refine (file_c m.p m.fl[i] w3 (hm.p.later ((l1.trans l2).trans l3)) hsok).mono ?_
    rintro _ w4 ⟨⟨b, rfl, hb⟩, l4⟩
    have l24 := l2.trans (l3.trans l4)
    have l04 := l1.trans l24
    obtain ⟨f1, f2, f3⟩ := FF w4 l24
    have n0 : w4.cell? (a.add (i * 4)) = some (.string m.fl[i].name) := by
      have := RecS.cell (j := 0) sdC_len (hfs.later l04) hik rfl
      rwa [addr_add_zero] at this
    cases b with
    | false =>
      repeat' (first | (simp (disch := omega) only [push_cast, ↓reduceIte, zA, zG, zB, zH, zI, zC, zJ, zK, zL, zD, zE, zF, zM, zN, zO, zP, zQ, reduceCtorEq, not_true_eq_false, not_false_eq_true, f2, hd2]) | (first | refine iE ?_ ?_ | refine iD ?_ ?_ | refine iQ ?_ ?_ | refine iV ?_ ?_) <;> intro _ | refine And.intro (by omega) ?_ | fail)
      refine drawn_q ?_
      repeat' (first | (simp (disch := omega) only [push_cast, ↓reduceIte, zA, zG, zB, zH, zI, zC, zJ, zK, zL, zD, zE, zF, zM, zN, zO, zP, zQ, reduceCtorEq, not_true_eq_false, not_false_eq_true, f2, hd2]) | (first | refine iE ?_ ?_ | refine iD ?_ ?_ | refine iQ ?_ ?_ | refine iV ?_ ?_) <;> intro _ | refine And.intro (by omega) ?_ | fail)
      intro w5 l5
      repeat' (first | (simp (disch := omega) only [push_cast, ↓reduceIte, zA, zG, zB, zH, zI, zC, zJ, zK, zL, zD, zE, zF, zM, zN, zO, zP, zQ, reduceCtorEq, not_true_eq_false, not_false_eq_true]) | (first | refine iE ?_ ?_ | refine iD ?_ ?_ | refine iQ ?_ ?_ | refine iV ?_ ?_) <;> intro _ | refine And.intro (by omega) ?_ | fail)
      first | exact fail _ (l04.trans l5) | trace_state
    | true =>
    by_cases hj : m.fl[i].name = m.jn
    · have d1 := decide_eq_true hj
      repeat' (first | (simp (disch := omega) only [push_cast, ↓reduceIte, zA, zG, zB, zH, zI, zC, zJ, zK, zL, zD, zE, zF, zM, zN, zO, zP, zQ, reduceCtorEq, not_true_eq_false, not_false_eq_true, f2, hd2]) | (first | refine iE ?_ ?_ | refine iD ?_ ?_ | refine iQ ?_ ?_ | refine iV ?_ ?_) <;> intro _ | refine And.intro (by omega) ?_ | fail)
      refine drawn_q ?_
      repeat' (first | (simp (disch := omega) only [push_cast, ↓reduceIte, zA, zG, zB, zH, zI, zC, zJ, zK, zL, zD, zE, zF, zM, zN, zO, zP, zQ, reduceCtorEq, not_true_eq_false, not_false_eq_true, f2, f3, n0, d1, hd2, addr_add_eq, Nat.zero_add]) | (first | refine iE ?_ ?_ | refine iD ?_ ?_ | refine iQ ?_ ?_ | refine iV ?_ ?_) <;> intro _ | refine And.intro (by omega) ?_ | fail)
      intro w5 l5
      repeat' (first | (simp (disch := omega) only [push_cast, ↓reduceIte, zA, zG, zB, zH, zI, zC, zJ, zK, zL, zD, zE, zF, zM, zN, zO, zP, zQ, reduceCtorEq, not_true_eq_false, not_false_eq_true]) | (first | refine iE ?_ ?_ | refine iD ?_ ?_ | refine iQ ?_ ?_ | refine iV ?_ ?_) <;> intro _ | refine And.intro (by omega) ?_ | fail)
      first | exact fail _ (l04.trans l5) | trace_state
    have d1 := decide_eq_false hj
    repeat' (first | (simp (disch := omega) only [push_cast, ↓reduceIte, zA, zG, zB, zH, zI, zC, zJ, zK, zL, zD, zE, zF, zM, zN, zO, zP, zQ, reduceCtorEq, not_true_eq_false, not_false_eq_true, f2, hd2]) | (first | refine iE ?_ ?_ | refine iD ?_ ?_ | refine iQ ?_ ?_ | refine iV ?_ ?_) <;> intro _ | refine And.intro (by omega) ?_ | fail)
    refine drawn_q ?_
    repeat' (first | (simp (disch := omega) only [push_cast, ↓reduceIte, zA, zG, zB, zH, zI, zC, zJ, zK, zL, zD, zE, zF, zM, zN, zO, zP, zQ, reduceCtorEq, not_true_eq_false, not_false_eq_true, f2, f3, n0, d1, hd2, addr_add_eq, Nat.zero_add]) | (first | refine iE ?_ ?_ | refine iD ?_ ?_ | refine iQ ?_ ?_ | refine iV ?_ ?_) <;> intro _ | refine And.intro (by omega) ?_ | fail)
    intro w5 l5
    have l25 := l24.trans l5
    have hFl := hb rfl
    repeat' (first | (simp (disch := omega) only [push_cast, ↓reduceIte, zA, zG, zB, zH, zI, zC, zJ, zK, zL, zD, zE, zF, zM, zN, zO, zP, zQ, reduceCtorEq, not_true_eq_false, not_false_eq_true]) | (first | refine iE ?_ ?_ | refine iD ?_ ?_ | refine iQ ?_ ?_ | refine iV ?_ ?_) <;> intro _ | refine And.intro (by omega) ?_ | fail)
    refine vc_loop W58_1 (fun k : Nat => [(2, .bool false), (5, .int .i64 (k : Int))]) (fun k w' => k ≤ i ∧ Later w1 w' ∧ ∀ b (hb : b < m.fl.length), b < k → ¬ (m.fl[b].tier = m.fl[i].tier ∧ m.fl[b].proj = m.fl[i].proj)) (fun k => i - k) 0 (by decide) ?_ ?_ ?_
    · simp (disch := omega) only [push_cast, ↓reduceIte, zA, zG, zB, zH, zI, zC, zJ, zK, zL, zD, zE, zF, zM, zN, zO, zP, zQ, reduceCtorEq, not_true_eq_false, not_false_eq_true]
      try rfl
    · exact ⟨Nat.zero_le _, l25, fun b _ h => absurd h (Nat.not_lt_zero _)⟩
    rintro k uu2 w6 ⟨hk, l6, hno⟩
    obtain ⟨f1, f2, f3⟩ := FF w6 l6
    have l06 := l1.trans l6
    by_cases hkp : k < i
    · have hd3 : decide ((k : Int) < (i : Int)) = true := decide_eq_true (by omega)
      have hkl : k < m.fl.length := by omega
      have hd4 : decide ((k : Int) < (m.fl.length : Int)) = true := decide_eq_true (by omega)
      have hs6 := hfs.later l06
      have m0 : w6.cell? (a.add (k * 4)) = some (.string m.fl[k].name) := by
        have := RecS.cell (j := 0) sdC_len hs6 hkl rfl
        rwa [addr_add_zero] at this
      have m1 := RecS.cell (j := 1) sdC_len hs6 hkl rfl
      have m2 := RecS.cell (j := 2) sdC_len hs6 hkl rfl
      have n0 : w6.cell? (a.add (i * 4)) = some (.string m.fl[i].name) := by
        have := RecS.cell (j := 0) sdC_len hs6 hik rfl
        rwa [addr_add_zero] at this
      have n1 := RecS.cell (j := 1) sdC_len hs6 hik rfl
      have n2 := RecS.cell (j := 2) sdC_len hs6 hik rfl
      have next : ∀ w', Later w6 w' → ¬ (m.fl[k].tier = m.fl[i].tier ∧ m.fl[k].proj = m.fl[i].proj) → k + 1 ≤ i ∧ Later w1 w' ∧ ∀ b (hb : b < m.fl.length), b < k + 1 → ¬ (m.fl[b].tier = m.fl[i].tier ∧ m.fl[b].proj = m.fl[i].proj) := by
        intro w' hl hn
        refine ⟨by omega, l6.trans hl, fun b hb hbk => ?_⟩
        by_cases hbk' : b < k
        · exact hno b hb hbk'
        · have : b = k := by omega
          subst this; exact hn
      by_cases e0 : m.fl[k].name = m.fl[i].name
      · have d0 := decide_eq_true e0
        repeat' (first | (simp (disch := omega) only [push_cast, ↓reduceIte, zA, zG, zB, zH, zI, zC, zJ, zK, zL, zD, zE, zF, zM, zN, zO, zP, zQ, reduceCtorEq, not_true_eq_false, not_false_eq_true, hd3]) | (first | refine iE ?_ ?_ | refine iD ?_ ?_ | refine iQ ?_ ?_ | refine iV ?_ ?_) <;> intro _ | refine And.intro (by omega) ?_ | fail)
        refine drawn_q ?_
        repeat' (first | (simp (disch := omega) only [push_cast, ↓reduceIte, zA, zG, zB, zH, zI, zC, zJ, zK, zL, zD, zE, zF, zM, zN, zO, zP, zQ, reduceCtorEq, not_true_eq_false, not_false_eq_true, f2, m0, n0, d0, hd2, hd4, addr_add_eq, Nat.zero_add]) | (first | refine iE ?_ ?_ | refine iD ?_ ?_ | refine iQ ?_ ?_ | refine iV ?_ ?_) <;> intro _ | refine And.intro (by omega) ?_ | fail)
        intro w7 l7
        repeat' (first | (simp (disch := omega) only [push_cast, ↓reduceIte, zA, zG, zB, zH, zI, zC, zJ, zK, zL, zD, zE, zF, zM, zN, zO, zP, zQ, reduceCtorEq, not_true_eq_false, not_false_eq_true]) | (first | refine iE ?_ ?_ | refine iD ?_ ?_ | refine iQ ?_ ?_ | refine iV ?_ ?_) <;> intro _ | refine And.intro (by omega) ?_ | fail)
        first | exact fail _ (l06.trans l7) | trace_state
      have d0 := decide_eq_false e0
      by_cases e1 : m.fl[k].tier = m.fl[i].tier
      case neg =>
        have d1 := decide_eq_false e1
        repeat' (first | (simp (disch := omega) only [push_cast, ↓reduceIte, zA, zG, zB, zH, zI, zC, zJ, zK, zL, zD, zE, zF, zM, zN, zO, zP, zQ, reduceCtorEq, not_true_eq_false, not_false_eq_true, hd3]) | (first | refine iE ?_ ?_ | refine iD ?_ ?_ | refine iQ ?_ ?_ | refine iV ?_ ?_) <;> intro _ | refine And.intro (by omega) ?_ | fail)
        refine drawn_q ?_
        repeat' (first | (simp (disch := omega) only [push_cast, ↓reduceIte, zA, zG, zB, zH, zI, zC, zJ, zK, zL, zD, zE, zF, zM, zN, zO, zP, zQ, reduceCtorEq, not_true_eq_false, not_false_eq_true, f2, m0, n0, d0, m1, n1, d1, hd2, hd4, addr_add_eq, Nat.zero_add]) | (first | refine iE ?_ ?_ | refine iD ?_ ?_ | refine iQ ?_ ?_ | refine iV ?_ ?_) <;> intro _ | refine And.intro (by omega) ?_ | fail)
        intro w7 l7
        repeat' (first | (simp (disch := omega) only [push_cast, ↓reduceIte, zA, zG, zB, zH, zI, zC, zJ, zK, zL, zD, zE, zF, zM, zN, zO, zP, zQ, reduceCtorEq, not_true_eq_false, not_false_eq_true]) | (first | refine iE ?_ ?_ | refine iD ?_ ?_ | refine iQ ?_ ?_ | refine iV ?_ ?_) <;> intro _ | refine And.intro (by omega) ?_ | fail)
        exact ⟨rfl, k + 1, by simp (disch := omega) only [push_cast, ↓reduceIte, zA, zG, zB, zH, zI, zC, zJ, zK, zL, zD, zE, zF, zM, zN, zO, zP, zQ, reduceCtorEq, not_true_eq_false, not_false_eq_true], next w7 l7 (fun h => e1 h.1), by dsimp only; omega⟩
      have d1 := decide_eq_true e1
      by_cases e2 : m.fl[k].proj = m.fl[i].proj
      · have d2 := decide_eq_true e2
        repeat' (first | (simp (disch := omega) only [push_cast, ↓reduceIte, zA, zG, zB, zH, zI, zC, zJ, zK, zL, zD, zE, zF, zM, zN, zO, zP, zQ, reduceCtorEq, not_true_eq_false, not_false_eq_true, hd3]) | (first | refine iE ?_ ?_ | refine iD ?_ ?_ | refine iQ ?_ ?_ | refine iV ?_ ?_) <;> intro _ | refine And.intro (by omega) ?_ | fail)
        refine drawn_q ?_
        repeat' (first | (simp (disch := omega) only [push_cast, ↓reduceIte, zA, zG, zB, zH, zI, zC, zJ, zK, zL, zD, zE, zF, zM, zN, zO, zP, zQ, reduceCtorEq, not_true_eq_false, not_false_eq_true, f2, m0, n0, d0, m1, n1, d1, m2, n2, d2, hd2, hd4, addr_add_eq, Nat.zero_add]) | (first | refine iE ?_ ?_ | refine iD ?_ ?_ | refine iQ ?_ ?_ | refine iV ?_ ?_) <;> intro _ | refine And.intro (by omega) ?_ | fail)
        intro w7 l7
        repeat' (first | (simp (disch := omega) only [push_cast, ↓reduceIte, zA, zG, zB, zH, zI, zC, zJ, zK, zL, zD, zE, zF, zM, zN, zO, zP, zQ, reduceCtorEq, not_true_eq_false, not_false_eq_true]) | (first | refine iE ?_ ?_ | refine iD ?_ ?_ | refine iQ ?_ ?_ | refine iV ?_ ?_) <;> intro _ | refine And.intro (by omega) ?_ | fail)
        first | exact fail _ (l06.trans l7) | trace_state
      have d2 := decide_eq_false e2
      repeat' (first | (simp (disch := omega) only [push_cast, ↓reduceIte, zA, zG, zB, zH, zI, zC, zJ, zK, zL, zD, zE, zF, zM, zN, zO, zP, zQ, reduceCtorEq, not_true_eq_false, not_false_eq_true, hd3]) | (first | refine iE ?_ ?_ | refine iD ?_ ?_ | refine iQ ?_ ?_ | refine iV ?_ ?_) <;> intro _ | refine And.intro (by omega) ?_ | fail)
      refine drawn_q ?_
      repeat' (first | (simp (disch := omega) only [push_cast, ↓reduceIte, zA, zG, zB, zH, zI, zC, zJ, zK, zL, zD, zE, zF, zM, zN, zO, zP, zQ, reduceCtorEq, not_true_eq_false, not_false_eq_true, f2, m0, n0, d0, m1, n1, d1, m2, n2, d2, hd2, hd4, addr_add_eq, Nat.zero_add]) | (first | refine iE ?_ ?_ | refine iD ?_ ?_ | refine iQ ?_ ?_ | refine iV ?_ ?_) <;> intro _ | refine And.intro (by omega) ?_ | fail)
      intro w7 l7
      repeat' (first | (simp (disch := omega) only [push_cast, ↓reduceIte, zA, zG, zB, zH, zI, zC, zJ, zK, zL, zD, zE, zF, zM, zN, zO, zP, zQ, reduceCtorEq, not_true_eq_false, not_false_eq_true]) | (first | refine iE ?_ ?_ | refine iD ?_ ?_ | refine iQ ?_ ?_ | refine iV ?_ ?_) <;> intro _ | refine And.intro (by omega) ?_ | fail)
      exact ⟨rfl, k + 1, by simp (disch := omega) only [push_cast, ↓reduceIte, zA, zG, zB, zH, zI, zC, zJ, zK, zL, zD, zE, zF, zM, zN, zO, zP, zQ, reduceCtorEq, not_true_eq_false, not_false_eq_true], next w7 l7 (fun h => e2 h.2), by dsimp only; omega⟩
    · have hd3 : decide ((k : Int) < (i : Int)) = false := decide_eq_false (by omega)
      repeat' (first | (simp (disch := omega) only [push_cast, ↓reduceIte, zA, zG, zB, zH, zI, zC, zJ, zK, zL, zD, zE, zF, zM, zN, zO, zP, zQ, reduceCtorEq, not_true_eq_false, not_false_eq_true, hd3]) | (first | refine iE ?_ ?_ | refine iD ?_ ?_ | refine iQ ?_ ?_ | refine iV ?_ ?_) <;> intro _ | refine And.intro (by omega) ?_ | fail)
      refine ⟨rfl, i + 1, by simp (disch := omega) only [push_cast, ↓reduceIte, zA, zG, zB, zH, zI, zC, zJ, zK, zL, zD, zE, zF, zM, zN, zO, zP, zQ, reduceCtorEq, not_true_eq_false, not_false_eq_true], ⟨by omega, l6, fun j hj hji => ?_, fun x y hx hy hxi hyx => ?_⟩, by dsimp only; omega⟩
      · by_cases hj' : j < i
        · exact hok j hj hj'
        · have : j = i := by omega
          subst this; exact hFl
      · by_cases hx' : x < i
        · exact hap x y hx hy hx' hyx
        · have : x = i := by omega
          subst this; exact hno y hy (by omega)
  · have hd2 : decide ((i : Int) < (m.fl.length : Int)) = false := decide_eq_false (by omega)
    have l02 := l1.trans l2
    have hres : FilesIn m.p m.fl := filesIn_of (fun j hj => hok j hj (by omega)) (apart_of fun a b ha hb hba => hap a b ha hb (by omega) hba)
    repeat' (first | (simp (disch := omega) only [push_cast, ↓reduceIte, zA, zG, zB, zH, zI, zC, zJ, zK, zL, zD, zE, zF, zM, zN, zO, zP, zQ, reduceCtorEq, not_true_eq_false, not_false_eq_true, f2, f3, hd2, addr_add_eq, Nat.zero_add]) | (first | refine iE ?_ ?_ | refine iD ?_ ?_ | refine iQ ?_ ?_ | refine iV ?_ ?_) <;> intro _ | refine And.intro (by omega) ?_ | fail)
    refine (fname_c m.jn w2 (Nat.le_trans hm.jn (by unfold Bz; omega))).mono ?_
    rintro _ w0 ⟨rfl, h0⟩; obtain rfl := h0.symm
    by_cases h40 : m.fl.length ≤ 40
    · have d40 : decide ((m.fl.length : Int) ≤ 40) = true := decide_eq_true (by omega)
      have fin : ∀ b : Bool, (∃ b' : Bool, Value.bool b = .bool b' ∧ (b' = true → FilesIn m.p m.fl ∧ m.fl.length ≤ 40)) ∧ Later w w2 := fun b => ⟨⟨b, rfl, fun _ => ⟨hres, h40⟩⟩, l02⟩
      cases hF : fnOk m.jn with
      | false =>
        repeat' (first | (simp (disch := omega) only [push_cast, ↓reduceIte, zA, zG, zB, zH, zI, zC, zJ, zK, zL, zD, zE, zF, zM, zN, zO, zP, zQ, reduceCtorEq, not_true_eq_false, not_false_eq_true, f2, f3, d40, addr_add_eq, Nat.zero_add]) | (first | refine iE ?_ ?_ | refine iD ?_ ?_ | refine iQ ?_ ?_ | refine iV ?_ ?_) <;> intro _ | refine And.intro (by omega) ?_ | fail)
        all_goals first | exact fin _ | trace_state
      | true =>
      by_cases n1 : m.jn = (⟨#[109, 97, 110, 105, 102, 101, 115, 116]⟩ : ByteArray)
      · have e1 := decide_eq_true n1
        repeat' (first | (simp (disch := omega) only [push_cast, ↓reduceIte, zA, zG, zB, zH, zI, zC, zJ, zK, zL, zD, zE, zF, zM, zN, zO, zP, zQ, reduceCtorEq, not_true_eq_false, not_false_eq_true, f2, f3, d40, e1, addr_add_eq, Nat.zero_add]) | (first | refine iE ?_ ?_ | refine iD ?_ ?_ | refine iQ ?_ ?_ | refine iV ?_ ?_) <;> intro _ | refine And.intro (by omega) ?_ | fail)
        all_goals first | exact fin _ | trace_state
      · have e1 := decide_eq_false n1
        repeat' (first | (simp (disch := omega) only [push_cast, ↓reduceIte, zA, zG, zB, zH, zI, zC, zJ, zK, zL, zD, zE, zF, zM, zN, zO, zP, zQ, reduceCtorEq, not_true_eq_false, not_false_eq_true, f2, f3, d40, e1, addr_add_eq, Nat.zero_add]) | (first | refine iE ?_ ?_ | refine iD ?_ ?_ | refine iQ ?_ ?_ | refine iV ?_ ?_) <;> intro _ | refine And.intro (by omega) ?_ | fail)
        all_goals first | exact fin _ | trace_state
    · have d40 : decide ((m.fl.length : Int) ≤ 40) = false := decide_eq_false (by omega)
      repeat' (first | (simp (disch := omega) only [push_cast, ↓reduceIte, zA, zG, zB, zH, zI, zC, zJ, zK, zL, zD, zE, zF, zM, zN, zO, zP, zQ, reduceCtorEq, not_true_eq_false, not_false_eq_true, f2, f3, d40, addr_add_eq, Nat.zero_add]) | (first | refine iE ?_ ?_ | refine iD ?_ ?_ | refine iQ ?_ ?_ | refine iV ?_ ?_) <;> intro _ | refine And.intro (by omega) ?_ | fail)
      all_goals first | exact fail _ l02 | trace_state
end Go.Proofs.Ytnofalhkapmcnaa
end
section
set_option linter.unusedSimpArgs false
namespace Go.Proofs.Ytnofalhkapmcnaa
open Go.Vc Go.Key Go.Cub
set_option maxRecDepth 100000
structure RgOk (m : MD) : Prop where
  sc : ScOk m.dl m.ml
  pl : PlOk m.dl m.p
  ln : m.el.length = m.p.tl.length
  e0 : ∀ i, i < m.el.length → 0 ≤ m.el.getD i 0
  fall : Fall m.el
  top : 0 < m.el.length → m.el.getD 0 0 ≤ m.now
  now : 0 ≤ m.now ∧ m.now ≤ 1099511627776
  fi : FilesIn m.p m.fl
  fn : m.fl.length ≤ 40
def lastE (m : MD) : Nat → Int
  | 0 => m.now
  | i + 1 => m.el.getD i 0
set_option maxHeartbeats 4000000 in
theorem right20_c (m : MD) (w : World) (hm : m.Ok w) (hd : m.dl.length ≤ 2000000) (hml : m.ml.length ≤ 2000000) : FnC Try.prog 20 #[.agg (mdC m).toArray] w fun v w' => (∃ b : Bool, v = .bool b ∧ (b = true → RgOk m)) ∧ Later w w' := by
  obtain ⟨eo, ec, hev, he1, he2, he, he0⟩ := hm.ev.openM
  obtain ⟨so, sc, hsv, hs1, hs2, hs, hs0⟩ := hm.sv.openM
  obtain ⟨to, tc, htv, ht1, ht2⟩ := RecS.slice hm.p.tv
  obtain ⟨mo, mc, hmv⟩ := Sl.slice hm.mv
  rw [List.length_map] at hmv
  have fail : ∀ (w' : World), Later w w' → (∃ b : Bool, Value.bool false = .bool b ∧ (b = true → RgOk m)) ∧ Later w w' := fun w' hl => ⟨⟨false, rfl, fun h => by cases h⟩, hl⟩
  refine enter20 _ ?_
  unfold B20
  have eca : (Value.agg (mdC m).toArray).cells = (mdC m).toArray := rfl
  have l1 := later_alloc w (.cells (mdC m).toArray 34)
  have B1 := Blk.new w (mdC m).toArray 34
  repeat' (first | (simp (disch := omega) only [push_cast, ↓reduceIte, zA, zG, zB, zH, zI, zC, zJ, zK, zL, zD, zE, zF, zM, zN, zO, zP, zQ, reduceCtorEq, not_true_eq_false, not_false_eq_true, eca]) | (first | refine iE ?_ ?_ | refine iD ?_ ?_ | refine iQ ?_ ?_ | refine iV ?_ ?_) <;> intro _ | refine And.intro (by omega) ?_ | fail)
  generalize w.alloc (.cells (mdC m).toArray 34) = w1 at *
  generalize hkf : w.heap.size = kf at *
  have FF : ∀ w', Later w1 w' → cellsAt w' ⟨kf, 0, none⟩ 2 = some [m.dv, m.mv] ∧ cellsAt w' ⟨kf, 2, none⟩ 3 = some (pdC m.p) ∧ w'.cell? ⟨kf, 1, none⟩ = some (.slice mo m.ml.length mc) ∧ w'.cell? ⟨kf, 2, none⟩ = some (.slice to m.p.tl.length tc) ∧ w'.cell? ⟨kf, 5, none⟩ = some (.int .i64 m.now) ∧
      w'.cell? ⟨kf, 6, none⟩ = some (.slice eo m.el.length ec) ∧ w'.cell? ⟨kf, 7, none⟩ = some (.int .i64 m.cnt) ∧ w'.cell? ⟨kf, 8, none⟩ = some (.slice so m.sl.length sc) ∧ w'.cell? ⟨kf, 11, none⟩ = some (.int .i64 m.nx) ∧ cellsAt w' ⟨kf, 0, none⟩ 12 = some (mdC m) := by
    intro w' hl
    have B := mdLater B1 hl
    obtain ⟨h0, h1, h3, h4, h5, h6, h7, _, _, h8⟩ := mdAt B
    rw [← hmv, ← htv, ← hev, ← hsv]
    refine ⟨?_, h3, h1, B.cell 2, h4, h5, h6, h7, h8, Blk.cellsAt (l := mdC m) B⟩
    refine cellsAt_of 2 _ _ rfl fun i x hx => ?_
    rw [addr_add_eq]
    match i, hx with
    | 0, hx => cases hx; exact h0
    | 1, hx => cases hx; exact h1
    | n + 2, hx => exact absurd hx (by simp)
  have hsc : ∀ w', Later w w' → ScIs w' m.dv m.mv m.dl m.ml := fun w' hl => ⟨Sl.later hm.dv hl, Sl.later hm.mv hl, bz_le hm.dl, bz_le hm.ml⟩
  obtain ⟨f1, f2, f3, f4, f5, f6, f7, f8, f9, f10⟩ := FF w1 (Later.refl _)
  repeat' (first | (simp (disch := omega) only [push_cast, ↓reduceIte, zA, zG, zB, zH, zI, zC, zJ, zK, zL, zD, zE, zF, zM, zN, zO, zP, zQ, reduceCtorEq, not_true_eq_false, not_false_eq_true, f1, addr_add_eq, Nat.zero_add]) | (first | refine iE ?_ ?_ | refine iD ?_ ?_ | refine iQ ?_ ?_ | refine iV ?_ ?_) <;> intro _ | refine And.intro (by omega) ?_ | fail)
  refine (dschema_c m.dv m.mv m.dl m.ml w1 (hsc w1 l1) hd hml).mono ?_
  rintro _ w2 ⟨rfl, l2⟩
  have l02 := l1.trans l2
  by_cases hS : ScOk m.dl m.ml
  case neg =>
    have d1 := decide_eq_false hS
    repeat' (first | (simp (disch := omega) only [push_cast, ↓reduceIte, zA, zG, zB, zH, zI, zC, zJ, zK, zL, zD, zE, zF, zM, zN, zO, zP, zQ, reduceCtorEq, not_true_eq_false, not_false_eq_true, d1]) | (first | refine iE ?_ ?_ | refine iD ?_ ?_ | refine iQ ?_ ?_ | refine iV ?_ ?_) <;> intro _ | refine And.intro (by omega) ?_ | fail)
    exact fail _ l02
  have d1 := decide_eq_true hS
  obtain ⟨f1, f2, f3, f4, f5, f6, f7, f8, f9, f10⟩ := FF w2 l2
  repeat' (first | (simp (disch := omega) only [push_cast, ↓reduceIte, zA, zG, zB, zH, zI, zC, zJ, zK, zL, zD, zE, zF, zM, zN, zO, zP, zQ, reduceCtorEq, not_true_eq_false, not_false_eq_true, d1, f1, f2, addr_add_eq, Nat.zero_add]) | (first | refine iE ?_ ?_ | refine iD ?_ ?_ | refine iQ ?_ ?_ | refine iV ?_ ?_) <;> intro _ | refine And.intro (by omega) ?_ | fail)
  refine (pcheck_c m.dv m.mv m.dl m.ml m.p w2 (hsc w2 l02) (hm.p.later l02)).mono ?_
  rintro _ w3 ⟨⟨e, rfl, hpe⟩, l3⟩
  have l03 := l02.trans l3
  have l13 := l2.trans l3
  by_cases hE : e = 0
  case neg =>
    have d2 := decide_eq_false hE
    repeat' (first | (simp (disch := omega) only [push_cast, ↓reduceIte, zA, zG, zB, zH, zI, zC, zJ, zK, zL, zD, zE, zF, zM, zN, zO, zP, zQ, reduceCtorEq, not_true_eq_false, not_false_eq_true, d2]) | (first | refine iE ?_ ?_ | refine iD ?_ ?_ | refine iQ ?_ ?_ | refine iV ?_ ?_) <;> intro _ | refine And.intro (by omega) ?_ | fail)
    exact fail _ l03
  have hP := hpe hE
  have d2 := decide_eq_true hE
  obtain ⟨f1, f2, f3, f4, f5, f6, f7, f8, f9, f10⟩ := FF w3 l13
  by_cases hN : m.el.length = m.p.tl.length
  case neg =>
    have d3 : decide ((m.el.length : Int) = (m.p.tl.length : Int)) = false := decide_eq_false (by omega)
    repeat' (first | (simp (disch := omega) only [push_cast, ↓reduceIte, zA, zG, zB, zH, zI, zC, zJ, zK, zL, zD, zE, zF, zM, zN, zO, zP, zQ, reduceCtorEq, not_true_eq_false, not_false_eq_true, d2, f4, f6, d3, addr_add_eq, Nat.zero_add]) | (first | refine iE ?_ ?_ | refine iD ?_ ?_ | refine iQ ?_ ?_ | refine iV ?_ ?_) <;> intro _ | refine And.intro (by omega) ?_ | fail)
    exact fail _ l03
  have d3 : decide ((m.el.length : Int) = (m.p.tl.length : Int)) = true := decide_eq_true (by omega)
  by_cases hM : m.sl.length = m.ml.length
  case neg =>
    have d4 : decide ((m.sl.length : Int) = (m.ml.length : Int)) = false := decide_eq_false (by omega)
    repeat' (first | (simp (disch := omega) only [push_cast, ↓reduceIte, zA, zG, zB, zH, zI, zC, zJ, zK, zL, zD, zE, zF, zM, zN, zO, zP, zQ, reduceCtorEq, not_true_eq_false, not_false_eq_true, d2, f4, f6, f3, f8, d3, d4, addr_add_eq, Nat.zero_add]) | (first | refine iE ?_ ?_ | refine iD ?_ ?_ | refine iQ ?_ ?_ | refine iV ?_ ?_) <;> intro _ | refine And.intro (by omega) ?_ | fail)
    exact fail _ l03
  have d4 : decide ((m.sl.length : Int) = (m.ml.length : Int)) = true := decide_eq_true (by omega)
  repeat' (first | (simp (disch := omega) only [push_cast, ↓reduceIte, zA, zG, zB, zH, zI, zC, zJ, zK, zL, zD, zE, zF, zM, zN, zO, zP, zQ, reduceCtorEq, not_true_eq_false, not_false_eq_true, d2, f4, f5, f6, f3, f8, d3, d4, addr_add_eq, Nat.zero_add]) | (first | refine iE ?_ ?_ | refine iD ?_ ?_ | refine iQ ?_ ?_ | refine iV ?_ ?_) <;> intro _ | refine And.intro (by omega) ?_ | fail)
  refine vc_loop W20_0 (fun i : Nat => [(4, .int .i64 (lastE m i)), (5, .int .i64 (i : Int))]) (fun i w' => i ≤ m.el.length ∧ Later w1 w' ∧ ∀ j, j < i → 0 ≤ m.el.getD j 0 ∧ m.el.getD j 0 ≤ lastE m j) (fun i => m.el.length - i) 0 (by decide) ?_ ?_ ?_
  · simp (disch := omega) only [push_cast, ↓reduceIte, zA, zG, zB, zH, zI, zC, zJ, zK, zL, zD, zE, zF, zM, zN, zO, zP, zQ, reduceCtorEq, not_true_eq_false, not_false_eq_true]
    try rfl
  · exact ⟨Nat.zero_le _, l13, fun j h => absurd h (Nat.not_lt_zero _)⟩
  rintro i uu w4 ⟨hi, l4, hfa⟩
  obtain ⟨f1, f2, f3, f4, f5, f6, f7, f8, f9, f10⟩ := FF w4 l4
  have l04 := l1.trans l4
  by_cases hik : i < m.el.length
  · have dd : decide ((i : Int) < (m.el.length : Int)) = true := decide_eq_true (by omega)
    obtain ⟨a, rfl, ea⟩ := int_at (Sl.later he l04) hik
    have hls : lastE m (i + 1) = m.el.getD i 0 := rfl
    generalize hv : m.el.getD i 0 = E at *
    repeat' (first | (simp (disch := omega) only [push_cast, ↓reduceIte, zA, zG, zB, zH, zI, zC, zJ, zK, zL, zD, zE, zF, zM, zN, zO, zP, zQ, reduceCtorEq, not_true_eq_false, not_false_eq_true, f6, dd, ea, addr_add_eq, Nat.zero_add]) | (first | refine iE ?_ ?_ | refine iD ?_ ?_ | refine iQ ?_ ?_ | refine iV ?_ ?_) <;> intro _ | refine And.intro (by omega) ?_ | fail)
    refine (within_c E 0 (lastE m i) w4).mono ?_
    rintro _ w0 ⟨rfl, h0⟩; obtain rfl := h0.symm
    by_cases hr : 0 ≤ E ∧ E ≤ lastE m i
    · have dr : (decide (0 ≤ E) && decide (E ≤ lastE m i)) = true := by simp [hr.1, hr.2]
      repeat' (first | (simp (disch := omega) only [push_cast, ↓reduceIte, zA, zG, zB, zH, zI, zC, zJ, zK, zL, zD, zE, zF, zM, zN, zO, zP, zQ, reduceCtorEq, not_true_eq_false, not_false_eq_true, dr, f6, dd, ea, addr_add_eq, Nat.zero_add]) | (first | refine iE ?_ ?_ | refine iD ?_ ?_ | refine iQ ?_ ?_ | refine iV ?_ ?_) <;> intro _ | refine And.intro (by omega) ?_ | fail)
      refine ⟨rfl, i + 1, by simp (disch := omega) only [push_cast, ↓reduceIte, zA, zG, zB, zH, zI, zC, zJ, zK, zL, zD, zE, zF, zM, zN, zO, zP, zQ, reduceCtorEq, not_true_eq_false, not_false_eq_true, hls], ⟨by omega, l4, fun j hj => ?_⟩, by dsimp only; omega⟩
      by_cases hji : j < i
      · exact hfa j hji
      · have : j = i := by omega
        subst this
        rw [hv]
        exact hr
    · have dr : (decide (0 ≤ E) && decide (E ≤ lastE m i)) = false := by
        rw [Bool.and_eq_false_iff, decide_eq_false_iff_not, decide_eq_false_iff_not]; omega
      repeat' (first | (simp (disch := omega) only [push_cast, ↓reduceIte, zA, zG, zB, zH, zI, zC, zJ, zK, zL, zD, zE, zF, zM, zN, zO, zP, zQ, reduceCtorEq, not_true_eq_false, not_false_eq_true, dr]) | (first | refine iE ?_ ?_ | refine iD ?_ ?_ | refine iQ ?_ ?_ | refine iV ?_ ?_) <;> intro _ | refine And.intro (by omega) ?_ | fail)
      exact fail _ l04
  have dd : decide ((i : Int) < (m.el.length : Int)) = false := decide_eq_false (by omega)
  obtain rfl : i = m.el.length := by omega
  repeat' (first | (simp (disch := omega) only [push_cast, ↓reduceIte, zA, zG, zB, zH, zI, zC, zJ, zK, zL, zD, zE, zF, zM, zN, zO, zP, zQ, reduceCtorEq, not_true_eq_false, not_false_eq_true, f6, dd, addr_add_eq, Nat.zero_add]) | (first | refine iE ?_ ?_ | refine iD ?_ ?_ | refine iQ ?_ ?_ | refine iV ?_ ?_) <;> intro _ | refine And.intro (by omega) ?_ | fail)
  refine vc_loop W20_1 (fun i : Nat => [(7, .int .i64 (i : Int))]) (fun i w' => i ≤ m.sl.length ∧ Later w1 w') (fun i => m.sl.length - i) 0 (by decide) ?_ ?_ ?_
  · simp (disch := omega) only [push_cast, ↓reduceIte, zA, zG, zB, zH, zI, zC, zJ, zK, zL, zD, zE, zF, zM, zN, zO, zP, zQ, reduceCtorEq, not_true_eq_false, not_false_eq_true]
    try rfl
  · exact ⟨Nat.zero_le _, l4⟩
  rintro k uu2 w5 ⟨hk, l5⟩
  obtain ⟨f1, f2, f3, f4, f5, f6, f7, f8, f9, f10⟩ := FF w5 l5
  have l05 := l1.trans l5
  by_cases hkl : k < m.sl.length
  · have dk : decide ((k : Int) < (m.sl.length : Int)) = true := decide_eq_true (by omega)
    obtain ⟨a, rfl, ea⟩ := int_at (Sl.later hs l05) hkl
    generalize hv : m.sl.getD k 0 = E at *
    repeat' (first | (simp (disch := omega) only [push_cast, ↓reduceIte, zA, zG, zB, zH, zI, zC, zJ, zK, zL, zD, zE, zF, zM, zN, zO, zP, zQ, reduceCtorEq, not_true_eq_false, not_false_eq_true, f8, dk, ea, addr_add_eq, Nat.zero_add]) | (first | refine iE ?_ ?_ | refine iD ?_ ?_ | refine iQ ?_ ?_ | refine iV ?_ ?_) <;> intro _ | refine And.intro (by omega) ?_ | fail)
    refine (within_c E 0 4611686018427387904 w5).mono ?_
    rintro _ w0 ⟨rfl, h0⟩; obtain rfl := h0.symm
    cases hr : (decide (0 ≤ E) && decide (E ≤ 4611686018427387904)) with
    | true =>
      repeat' (first | (simp (disch := omega) only [push_cast, ↓reduceIte, zA, zG, zB, zH, zI, zC, zJ, zK, zL, zD, zE, zF, zM, zN, zO, zP, zQ, reduceCtorEq, not_true_eq_false, not_false_eq_true]) | (first | refine iE ?_ ?_ | refine iD ?_ ?_ | refine iQ ?_ ?_ | refine iV ?_ ?_) <;> intro _ | refine And.intro (by omega) ?_ | fail)
      exact ⟨rfl, k + 1, by simp (disch := omega) only [push_cast, ↓reduceIte, zA, zG, zB, zH, zI, zC, zJ, zK, zL, zD, zE, zF, zM, zN, zO, zP, zQ, reduceCtorEq, not_true_eq_false, not_false_eq_true], ⟨by omega, l5⟩, by dsimp only; omega⟩
    | false =>
      repeat' (first | (simp (disch := omega) only [push_cast, ↓reduceIte, zA, zG, zB, zH, zI, zC, zJ, zK, zL, zD, zE, zF, zM, zN, zO, zP, zQ, reduceCtorEq, not_true_eq_false, not_false_eq_true]) | (first | refine iE ?_ ?_ | refine iD ?_ ?_ | refine iQ ?_ ?_ | refine iV ?_ ?_) <;> intro _ | refine And.intro (by omega) ?_ | fail)
      exact fail _ l05
  have dk : decide ((k : Int) < (m.sl.length : Int)) = false := decide_eq_false (by omega)
  repeat' (first | (simp (disch := omega) only [push_cast, ↓reduceIte, zA, zG, zB, zH, zI, zC, zJ, zK, zL, zD, zE, zF, zM, zN, zO, zP, zQ, reduceCtorEq, not_true_eq_false, not_false_eq_true, f8, dk, f5, addr_add_eq, Nat.zero_add]) | (first | refine iE ?_ ?_ | refine iD ?_ ?_ | refine iQ ?_ ?_ | refine iV ?_ ?_) <;> intro _ | refine And.intro (by omega) ?_ | fail)
  refine (within_c m.now 0 1099511627776 w5).mono ?_
  rintro _ w0 ⟨rfl, h0⟩; obtain rfl := h0.symm
  have hfin : (decide (0 ≤ m.now) && decide (m.now ≤ 1099511627776)) = true → FilesIn m.p m.fl ∧ m.fl.length ≤ 40 → RgOk m := by
    intro hn hF
    simp only [Bool.and_eq_true, decide_eq_true_eq] at hn
    refine ⟨hS, hP, hN, fun i hi => (hfa i hi).1, fun i hi => (hfa (i + 1) hi).2, fun h => (hfa 0 h).2, hn, hF.1, hF.2⟩
  -- the rest: two more tests, the files
  have rest : ∀ (b1 b2 : Bool) (w' : World), (b1 = true → (decide (0 ≤ m.now) && decide (m.now ≤ 1099511627776)) = true) → Later w w' → ∀ b3 : Bool, (b3 = true → FilesIn m.p m.fl ∧ m.fl.length ≤ 40) → (∃ b : Bool, Value.bool (b1 && b2 && b3) = .bool b ∧ (b = true → RgOk m)) ∧ Later w w' := by
    intro b1 b2 w' h1 hl b3 h3
    refine ⟨⟨_, rfl, fun h => ?_⟩, hl⟩
    simp only [Bool.and_eq_true] at h
    exact hfin (h1 h.1.1) (h3 h.2)
  cases hn : (decide (0 ≤ m.now) && decide (m.now ≤ 1099511627776)) with
  | false =>
    repeat' (first | (simp (disch := omega) only [push_cast, ↓reduceIte, zA, zG, zB, zH, zI, zC, zJ, zK, zL, zD, zE, zF, zM, zN, zO, zP, zQ, reduceCtorEq, not_true_eq_false, not_false_eq_true, f9, addr_add_eq, Nat.zero_add]) | (first | refine iE ?_ ?_ | refine iD ?_ ?_ | refine iQ ?_ ?_ | refine iV ?_ ?_) <;> intro _ | refine And.intro (by omega) ?_ | fail)
    refine (within_c m.nx 0 1073741824 w5).mono ?_
    rintro _ w0 ⟨rfl, h0⟩; obtain rfl := h0.symm
    repeat' (first | (simp (disch := omega) only [push_cast, ↓reduceIte, zA, zG, zB, zH, zI, zC, zJ, zK, zL, zD, zE, zF, zM, zN, zO, zP, zQ, reduceCtorEq, not_true_eq_false, not_false_eq_true, f10, addr_add_eq, Nat.zero_add]) | (first | refine iE ?_ ?_ | refine iD ?_ ?_ | refine iQ ?_ ?_ | refine iV ?_ ?_) <;> intro _ | refine And.intro (by omega) ?_ | fail)
    refine (files_c m w5 (hm.later l05)).mono ?_
    rintro _ w6 ⟨⟨b, rfl, hb⟩, l6⟩
    repeat' (first | (simp (disch := omega) only [push_cast, ↓reduceIte, zA, zG, zB, zH, zI, zC, zJ, zK, zL, zD, zE, zF, zM, zN, zO, zP, zQ, reduceCtorEq, not_true_eq_false, not_false_eq_true]) | (first | refine iE ?_ ?_ | refine iD ?_ ?_ | refine iQ ?_ ?_ | refine iV ?_ ?_) <;> intro _ | refine And.intro (by omega) ?_ | refine drawn_q ?_ | fail)
    all_goals exact fail _ (l05.trans l6)
  | true =>
    repeat' (first | (simp (disch := omega) only [push_cast, ↓reduceIte, zA, zG, zB, zH, zI, zC, zJ, zK, zL, zD, zE, zF, zM, zN, zO, zP, zQ, reduceCtorEq, not_true_eq_false, not_false_eq_true, f7, addr_add_eq, Nat.zero_add]) | (first | refine iE ?_ ?_ | refine iD ?_ ?_ | refine iQ ?_ ?_ | refine iV ?_ ?_) <;> intro _ | refine And.intro (by omega) ?_ | fail)
    refine (within_c m.cnt 0 1048576 w5).mono ?_
    rintro _ w0 ⟨rfl, h0⟩; obtain rfl := h0.symm
    repeat' (first | (simp (disch := omega) only [push_cast, ↓reduceIte, zA, zG, zB, zH, zI, zC, zJ, zK, zL, zD, zE, zF, zM, zN, zO, zP, zQ, reduceCtorEq, not_true_eq_false, not_false_eq_true, f9, addr_add_eq, Nat.zero_add]) | (first | refine iE ?_ ?_ | refine iD ?_ ?_ | refine iQ ?_ ?_ | refine iV ?_ ?_) <;> intro _ | refine And.intro (by omega) ?_ | fail)
    refine (within_c m.nx 0 1073741824 w5).mono ?_
    rintro _ w0 ⟨rfl, h0⟩; obtain rfl := h0.symm
    repeat' (first | (simp (disch := omega) only [push_cast, ↓reduceIte, zA, zG, zB, zH, zI, zC, zJ, zK, zL, zD, zE, zF, zM, zN, zO, zP, zQ, reduceCtorEq, not_true_eq_false, not_false_eq_true, f10, addr_add_eq, Nat.zero_add]) | (first | refine iE ?_ ?_ | refine iD ?_ ?_ | refine iQ ?_ ?_ | refine iV ?_ ?_) <;> intro _ | refine And.intro (by omega) ?_ | fail)
    refine (files_c m w5 (hm.later l05)).mono ?_
    rintro _ w6 ⟨⟨b, rfl, hb⟩, l6⟩
    generalize (decide (0 ≤ m.cnt) && decide (m.cnt ≤ 1048576)) = b1
    generalize (decide (0 ≤ m.nx) && decide (m.nx ≤ 1073741824)) = b2
    cases b1
    · repeat' (first | (simp (disch := omega) only [push_cast, ↓reduceIte, zA, zG, zB, zH, zI, zC, zJ, zK, zL, zD, zE, zF, zM, zN, zO, zP, zQ, reduceCtorEq, not_true_eq_false, not_false_eq_true]) | (first | refine iE ?_ ?_ | refine iD ?_ ?_ | refine iQ ?_ ?_ | refine iV ?_ ?_) <;> intro _ | refine And.intro (by omega) ?_ | refine drawn_q ?_ | fail)
      all_goals exact fail _ (l05.trans l6)
    cases b2
    · repeat' (first | (simp (disch := omega) only [push_cast, ↓reduceIte, zA, zG, zB, zH, zI, zC, zJ, zK, zL, zD, zE, zF, zM, zN, zO, zP, zQ, reduceCtorEq, not_true_eq_false, not_false_eq_true]) | (first | refine iE ?_ ?_ | refine iD ?_ ?_ | refine iQ ?_ ?_ | refine iV ?_ ?_) <;> intro _ | refine And.intro (by omega) ?_ | refine drawn_q ?_ | fail)
      all_goals exact fail _ (l05.trans l6)
    repeat' (first | (simp (disch := omega) only [push_cast, ↓reduceIte, zA, zG, zB, zH, zI, zC, zJ, zK, zL, zD, zE, zF, zM, zN, zO, zP, zQ, reduceCtorEq, not_true_eq_false, not_false_eq_true]) | (first | refine iE ?_ ?_ | refine iD ?_ ?_ | refine iQ ?_ ?_ | refine iV ?_ ?_) <;> intro _ | refine And.intro (by omega) ?_ | refine drawn_q ?_ | fail)
    all_goals exact ⟨⟨b, rfl, fun h => hfin hn (hb h)⟩, l05.trans l6⟩
end Go.Proofs.Ytnofalhkapmcnaa
end
section
namespace Go.Proofs.Ytnofalhkapmcnaa
open Go.Vc
set_option maxRecDepth 100000
variable (Q : Post) (ds : List Deferred) (σ : Env) (w : World)
/-! 4 columbary/columbarylaw26.SelectorAll (params #[34, 42], results #[(.tmp 4)], 196 slots) -/
def W4_0 : List Nat := [4, 8, 9, 39, 40, 41, 42, 43, 44, 45, 46, 47, 48, 49, 50, 51, 52, 53, 54, 55, 56, 57, 58, 59, 60, 61, 62, 63, 64, 65, 66, 67, 68, 69, 70, 71, 72, 73, 74, 75, 76, 77, 78, 79, 80, 81, 82, 83, 84, 85, 86, 87, 88, 89, 90, 91]
@[push_cast] theorem W4_0_def : W4_0 = [4, 8, 9, 39, 40, 41, 42, 43, 44, 45, 46, 47, 48, 49, 50, 51, 52, 53, 54, 55, 56, 57, 58, 59, 60, 61, 62, 63, 64, 65, 66, 67, 68, 69, 70, 71, 72, 73, 74, 75, 76, 77, 78, 79, 80, 81, 82, 83, 84, 85, 86, 87, 88, 89, 90, 91] := mk_eq rfl
def W4_1 : List Nat := [4, 13, 132, 133, 134, 135, 136, 137, 138, 139, 140, 141, 142, 143, 144, 145, 146, 147, 148, 149, 150, 151, 152, 153, 154, 155, 156, 157, 158, 159, 160, 161, 162, 163, 164, 165, 166, 167, 168, 169, 170, 171, 172, 173, 174, 175, 176, 177, 178, 179, 180, 181, 182, 183, 184, 185, 186, 187]
@[push_cast] theorem W4_1_def : W4_1 = [4, 13, 132, 133, 134, 135, 136, 137, 138, 139, 140, 141, 142, 143, 144, 145, 146, 147, 148, 149, 150, 151, 152, 153, 154, 155, 156, 157, 158, 159, 160, 161, 162, 163, 164, 165, 166, 167, 168, 169, 170, 171, 172, 173, 174, 175, 176, 177, 178, 179, 180, 181, 182, 183, 184, 185, 186, 187] := mk_eq rfl
def r4_0 : List VOp :=
  [⟨some 2, .box 34 (.tmp 0), 0, none⟩,
   ⟨some 3, .box 42 (.tmp 1), 0, none⟩,
   ⟨some 4, .assign (.const (.bool false)), 4, none⟩]
def r4_1 : List VOp :=
  [lda 14 34 2,
   lda 15 42 3,
   ⟨some 16, .call ⟨.value (.func 10), #[.tmp 14, .tmp 15], #[34, 42]⟩, 4, none⟩,
   asg 5 16 4]
def r4_2 : List VOp :=
  [mv 17 5 4,
   ⟨some 18, .unOp .not 4 (.tmp 17), 4, none⟩]
def r4_3 : List VOp :=
  [⟨some 19, .call ⟨.value (.func 11), #[], #[]⟩, 4, none⟩,
   asg 4 19 4]
def r4_4 : List VOp :=
  [fad 20 34 2 1,
   lda 21 28 20,
   fad 22 34 2 3,
   lda 23 29 22,
   lda 24 42 3,
   ⟨some 25, .call ⟨.value (.func 14), #[.tmp 21, .tmp 23, .tmp 24], #[28, 29, 42]⟩, 45, none⟩,
   asg 6 25 45]
def r4_5 : List VOp :=
  [fad 26 42 3 1,
   lda 27 3 26,
   fad 28 34 2 3,
   lda 29 29 28,
   fad 30 34 2 3,
   lda 31 29 30,
   ⟨some 32, .call ⟨.builtin .len, #[.tmp 31], #[29]⟩, 3, none⟩,
   ⟨some 33, .binOp .sub 3 (.tmp 32) (.const (.int .i64 1)) 3, 3, none⟩,
   iad 34 29 29 33,
   lda 35 3 34,
   ⟨some 36, .call ⟨.builtin .max, #[.tmp 27, .tmp 35], #[3, 3]⟩, 3, none⟩,
   asg 7 36 3]
def r4_6 : List VOp :=
  [fad 37 42 3 2,
   lda 38 3 37,
   asg 8 38 3]
def r4_7 : List VOp :=
  [⟨some 9, .assign (.const (.int .i64 0)), 3, none⟩]
def r4_8 : List VOp :=
  [mv 39 9 3,
   mv 40 6 45,
   ⟨some 41, .call ⟨.builtin .len, #[.tmp 40], #[45]⟩, 3, none⟩,
   ⟨some 42, .binOp .lss 3 (.tmp 39) (.tmp 41) 3, 4, none⟩]
def r4_10 : List VOp :=
  [mv 45 6 45,
   mv 46 9 3,
   iad 47 45 45 46,
   fad 48 49 47 1,
   lda 49 3 48,
   mv 50 8 3,
   ⟨some 51, .binOp .neq 3 (.tmp 49) (.tmp 50) 3, 4, none⟩,
   mv 52 51 4,
   ⟨some 53, .move (.tmp 6), 45, some (52, false)⟩,
   ⟨some 54, .move (.tmp 9), 3, some (52, false)⟩,
   ⟨some 55, .indexAddr 45 (.tmp 53) (.tmp 54), 0, some (52, false)⟩,
   ⟨some 56, .fieldAddr 49 (.tmp 55) 0, 0, some (52, false)⟩,
   ⟨some 57, .load 3 (.tmp 56), 3, some (52, false)⟩,
   ⟨some 58, .move (.tmp 8), 3, some (52, false)⟩,
   ⟨some 59, .binOp .geq 3 (.tmp 57) (.tmp 58) 3, 4, some (52, false)⟩,
   ⟨some 60, .pick (.tmp 52) (.const (.bool true)) (.tmp 59), 4, none⟩,
   mv 61 60 4,
   ⟨some 62, .move (.tmp 9), 3, some (61, false)⟩,
   ⟨some 63, .binOp .gtr 3 (.tmp 62) (.const (.int .i64 0)) 3, 4, some (61, false)⟩,
   ⟨some 64, .move (.tmp 63), 4, some (61, false)⟩,
   ⟨some 65, .move (.tmp 6), 45, some (64, true)⟩,
   ⟨some 66, .move (.tmp 9), 3, some (64, true)⟩,
   ⟨some 67, .indexAddr 45 (.tmp 65) (.tmp 66), 0, some (64, true)⟩,
   ⟨some 68, .fieldAddr 49 (.tmp 67) 2, 0, some (64, true)⟩,
   ⟨some 69, .load 3 (.tmp 68), 3, some (64, true)⟩,
   ⟨some 70, .move (.tmp 6), 45, some (64, true)⟩,
   ⟨some 71, .move (.tmp 9), 3, some (64, true)⟩,
   ⟨some 72, .binOp .sub 3 (.tmp 71) (.const (.int .i64 1)) 3, 3, some (64, true)⟩,
   ⟨some 73, .indexAddr 45 (.tmp 70) (.tmp 72), 0, some (64, true)⟩,
   ⟨some 74, .fieldAddr 49 (.tmp 73) 2, 0, some (64, true)⟩,
   ⟨some 75, .load 3 (.tmp 74), 3, some (64, true)⟩,
   ⟨some 76, .binOp .leq 3 (.tmp 69) (.tmp 75) 3, 4, some (64, true)⟩,
   ⟨some 77, .pick (.tmp 64) (.tmp 76) (.const (.bool false)), 4, some (61, false)⟩,
   ⟨some 78, .pick (.tmp 61) (.const (.bool true)) (.tmp 77), 4, none⟩,
   mv 79 78 4,
   ⟨some 80, .move (.tmp 6), 45, some (79, false)⟩,
   ⟨some 81, .move (.tmp 9), 3, some (79, false)⟩,
   ⟨some 82, .indexAddr 45 (.tmp 80) (.tmp 81), 0, some (79, false)⟩,
   ⟨some 83, .fieldAddr 49 (.tmp 82) 3, 0, some (79, false)⟩,
   ⟨some 84, .load 3 (.tmp 83), 3, some (79, false)⟩,
   ⟨some 85, .binOp .neq 3 (.tmp 84) (.const (.int .i64 (-1))) 3, 4, some (79, false)⟩,
   ⟨some 86, .pick (.tmp 79) (.const (.bool true)) (.tmp 85), 4, none⟩]
def r4_11 : List VOp :=
  [⟨some 4, .assign (.const (.bool false)), 4, none⟩]
def r4_12 : List VOp :=
  [mv 87 6 45,
   mv 88 9 3,
   iad 89 45 87 88,
   fad 90 49 89 0,
   lda 91 3 90,
   asg 8 91 3]
def r4_9 : List VOp :=
  [mv 43 9 3,
   ⟨some 44, .binOp .add 3 (.tmp 43) (.const (.int .i64 1)) 3, 3, none⟩,
   asg 9 44 3]
def r4_13 : List VOp :=
  [mv 92 6 45,
   ⟨some 93, .call ⟨.builtin .len, #[.tmp 92], #[45]⟩, 3, none⟩,
   ⟨some 94, .binOp .eql 3 (.tmp 93) (.const (.int .i64 0)) 3, 4, none⟩,
   mv 95 7 3,
   fad 96 42 3 2,
   lda 97 3 96,
   ⟨some 98, .binOp .geq 3 (.tmp 95) (.tmp 97) 3, 4, none⟩,
   ⟨some 99, .binOp .neq 4 (.tmp 94) (.tmp 98) 4, 4, none⟩,
   mv 100 99 4,
   ⟨some 101, .move (.tmp 6), 45, some (100, false)⟩,
   ⟨some 102, .call ⟨.builtin .len, #[.tmp 101], #[45]⟩, 3, some (100, false)⟩,
   ⟨some 103, .binOp .gtr 3 (.tmp 102) (.const (.int .i64 0)) 3, 4, some (100, false)⟩,
   ⟨some 104, .move (.tmp 103), 4, some (100, false)⟩,
   ⟨some 105, .move (.tmp 8), 3, some (104, true)⟩,
   ⟨some 106, .move (.tmp 7), 3, some (104, true)⟩,
   ⟨some 107, .binOp .neq 3 (.tmp 105) (.tmp 106) 3, 4, some (104, true)⟩,
   ⟨some 108, .pick (.tmp 104) (.tmp 107) (.const (.bool false)), 4, some (100, false)⟩,
   ⟨some 109, .pick (.tmp 100) (.const (.bool true)) (.tmp 108), 4, none⟩]
def r4_14 : List VOp :=
  [⟨some 4, .assign (.const (.bool false)), 4, none⟩]
def r4_15 : List VOp :=
  [fad 111 34 2 0,
   lda 112 24 111,
   fad 113 34 2 1,
   lda 114 28 113,
   fad 115 34 2 3,
   lda 116 29 115,
   lda 117 42 3,
   fad 118 34 2 5,
   lda 119 32 118,
   ⟨some 120, .call ⟨.value (.func 17), #[.tmp 112, .tmp 114, .tmp 116, .tmp 117, .tmp 119], #[24, 28, 29, 42, 32]⟩, 54, none⟩,
   mv 110 120 54,
   ext 121 110 0 45,
   ext 122 110 1 3,
   ext 123 110 2 53,
   asg 10 121 45,
   asg 11 122 3,
   asg 12 123 53]
def r4_16 : List VOp :=
  [mv 124 12 53,
   ⟨some 125, .binOp .neq 53 (.tmp 124) (.const (.int .i64 0)) 53, 4, none⟩]
def r4_17 : List VOp :=
  [⟨some 126, .call ⟨.value (.func 11), #[], #[]⟩, 4, none⟩,
   mv 127 126 4,
   ⟨some 128, .move (.tmp 10), 45, some (127, true)⟩,
   ⟨some 129, .call ⟨.builtin .len, #[.tmp 128], #[45]⟩, 3, some (127, true)⟩,
   ⟨some 130, .binOp .eql 3 (.tmp 129) (.const (.int .i64 0)) 3, 4, some (127, true)⟩,
   ⟨some 131, .pick (.tmp 127) (.tmp 130) (.const (.bool false)), 4, none⟩,
   asg 4 131 4]
def r4_18 : List VOp :=
  [⟨some 13, .assign (.const (.int .i64 0)), 3, none⟩]
def r4_19 : List VOp :=
  [mv 132 13 3,
   mv 133 10 45,
   ⟨some 134, .call ⟨.builtin .len, #[.tmp 133], #[45]⟩, 3, none⟩,
   ⟨some 135, .binOp .lss 3 (.tmp 132) (.tmp 134) 3, 4, none⟩]
def r4_21 : List VOp :=
  [mv 138 10 45,
   mv 139 13 3,
   iad 140 45 138 139,
   fad 141 49 140 0,
   lda 142 3 141,
   mv 143 6 45,
   mv 144 13 3,
   iad 145 45 143 144,
   fad 146 49 145 0,
   lda 147 3 146,
   ⟨some 148, .binOp .neq 3 (.tmp 142) (.tmp 147) 3, 4, none⟩,
   mv 149 148 4,
   ⟨some 150, .move (.tmp 10), 45, some (149, false)⟩,
   ⟨some 151, .move (.tmp 13), 3, some (149, false)⟩,
   ⟨some 152, .indexAddr 45 (.tmp 150) (.tmp 151), 0, some (149, false)⟩,
   ⟨some 153, .fieldAddr 49 (.tmp 152) 1, 0, some (149, false)⟩,
   ⟨some 154, .load 3 (.tmp 153), 3, some (149, false)⟩,
   ⟨some 155, .move (.tmp 6), 45, some (149, false)⟩,
   ⟨some 156, .move (.tmp 13), 3, some (149, false)⟩,
   ⟨some 157, .indexAddr 45 (.tmp 155) (.tmp 156), 0, some (149, false)⟩,
   ⟨some 158, .fieldAddr 49 (.tmp 157) 1, 0, some (149, false)⟩,
   ⟨some 159, .load 3 (.tmp 158), 3, some (149, false)⟩,
   ⟨some 160, .binOp .neq 3 (.tmp 154) (.tmp 159) 3, 4, some (149, false)⟩,
   ⟨some 161, .pick (.tmp 149) (.const (.bool true)) (.tmp 160), 4, none⟩,
   mv 162 161 4,
   ⟨some 163, .move (.tmp 10), 45, some (162, false)⟩,
   ⟨some 164, .move (.tmp 13), 3, some (162, false)⟩,
   ⟨some 165, .indexAddr 45 (.tmp 163) (.tmp 164), 0, some (162, false)⟩,
   ⟨some 166, .fieldAddr 49 (.tmp 165) 2, 0, some (162, false)⟩,
   ⟨some 167, .load 3 (.tmp 166), 3, some (162, false)⟩,
   ⟨some 168, .move (.tmp 6), 45, some (162, false)⟩,
   ⟨some 169, .move (.tmp 13), 3, some (162, false)⟩,
   ⟨some 170, .indexAddr 45 (.tmp 168) (.tmp 169), 0, some (162, false)⟩,
   ⟨some 171, .fieldAddr 49 (.tmp 170) 2, 0, some (162, false)⟩,
   ⟨some 172, .load 3 (.tmp 171), 3, some (162, false)⟩,
   ⟨some 173, .binOp .neq 3 (.tmp 167) (.tmp 172) 3, 4, some (162, false)⟩,
   ⟨some 174, .pick (.tmp 162) (.const (.bool true)) (.tmp 173), 4, none⟩,
   mv 175 174 4,
   ⟨some 176, .fieldAddr 34 (.tmp 2) 0, 0, some (175, false)⟩,
   ⟨some 177, .load 24 (.tmp 176), 24, some (175, false)⟩,
   ⟨some 178, .fieldAddr 34 (.tmp 2) 1, 0, some (175, false)⟩,
   ⟨some 179, .load 28 (.tmp 178), 28, some (175, false)⟩,
   ⟨some 180, .load 42 (.tmp 3), 42, some (175, false)⟩,
   ⟨some 181, .move (.tmp 10), 45, some (175, false)⟩,
   ⟨some 182, .move (.tmp 13), 3, some (175, false)⟩,
   ⟨some 183, .indexAddr 45 (.tmp 181) (.tmp 182), 0, some (175, false)⟩,
   ⟨some 184, .load 49 (.tmp 183), 49, some (175, false)⟩,
   ⟨some 185, .call ⟨.value (.func 15), #[.tmp 177, .tmp 179, .tmp 180, .tmp 184], #[24, 28, 42, 49]⟩, 4, some (175, false)⟩,
   ⟨some 186, .unOp .not 4 (.tmp 185), 4, some (175, false)⟩,
   ⟨some 187, .pick (.tmp 175) (.const (.bool true)) (.tmp 186), 4, none⟩]
def r4_22 : List VOp :=
  [⟨some 4, .assign (.const (.bool false)), 4, none⟩]
def r4_20 : List VOp :=
  [mv 136 13 3,
   ⟨some 137, .binOp .add 3 (.tmp 136) (.const (.int .i64 1)) 3, 3, none⟩,
   asg 13 137 3]
def r4_23 : List VOp :=
  [⟨some 188, .call ⟨.value (.func 11), #[], #[]⟩, 4, none⟩,
   mv 189 188 4,
   ⟨some 190, .move (.tmp 10), 45, some (189, true)⟩,
   ⟨some 191, .call ⟨.builtin .len, #[.tmp 190], #[45]⟩, 3, some (189, true)⟩,
   ⟨some 192, .move (.tmp 6), 45, some (189, true)⟩,
   ⟨some 193, .call ⟨.builtin .len, #[.tmp 192], #[45]⟩, 3, some (189, true)⟩,
   ⟨some 194, .binOp .eql 3 (.tmp 191) (.tmp 193) 3, 4, some (189, true)⟩,
   ⟨some 195, .pick (.tmp 189) (.tmp 194) (.const (.bool false)), 4, none⟩,
   asg 4 195 4]
def B4 : VC :=
  (.seq (.region r4_0) (.seq (.region r4_1) (.seq (.seq (.region r4_2) (.cond (.tmp 18) (.seq (.region r4_3) .ret) .skip)) (.seq (.region r4_4) (.seq (.draw r4_5 3) (.seq (.region r4_6) (.seq (.seq (.region r4_7) (.block 0 (.loop (.seq (.seq (.region r4_8) (.cond (.tmp 42) .skip (.exit 0))) (.seq (.block 1 (.seq (.seq (.draw r4_10 6) (.cond (.tmp 86) (.seq (.region r4_11) .ret) .skip)) (.region r4_12))) (.region r4_9)))))) (.seq (.seq (.region r4_13) (.cond (.tmp 109) (.seq (.region r4_14) .ret) .skip)) (.seq (.region r4_15) (.seq (.seq (.region r4_16) (.cond (.tmp 125) (.seq (.region r4_17) .ret) .skip)) (.seq (.seq (.region r4_18) (.block 2 (.loop (.seq (.seq (.region r4_19) (.cond (.tmp 135) .skip (.exit 2))) (.seq (.block 3 (.seq (.draw r4_21 4) (.cond (.tmp 187) (.seq (.region r4_22) .ret) .skip))) (.region r4_20)))))) (.seq (.region r4_23) .ret))))))))))))
theorem code4 : ∃ c, Try.f4.body = some c ∧ abs Try.f4.ntmps c = B4 := ⟨_, rfl, by kernel_rfl⟩
theorem hb4 : HasBody Try.prog 4 := hasBody_of Try.func4 (by kernel_rfl)
theorem res4 : Try.f4.results = #[(.tmp 4)] := rfl
theorem enter4 {w : World} {R : Value → World → Prop} (x0 x1 : Value) (h : vc Try.prog B4 (retK Try.prog #[(.tmp 4)] R) [] (initEnv [x0, x1] 0) w) : FnC Try.prog 4 #[x0, x1] w R := by
  obtain ⟨c, h1, h2⟩ := code4
  exact hb4.fn (ret_of_vc mixed Try.func4 h1 (Nat.le_of_ble_eq_true rfl) B4 h2 h)
@[push_cast] theorem vr4_0 : VR r4_0 [⟨some 2, .box 34 (.tmp 0), 0, none⟩, ⟨some 3, .box 42 (.tmp 1), 0, none⟩, ⟨some 4, .assign (.const (.bool false)), 4, none⟩] := vR rfl
@[push_cast] theorem vr4_1 : VR r4_1 [⟨some 14, .load 34 (.tmp 2), 34, none⟩, ⟨some 15, .load 42 (.tmp 3), 42, none⟩, ⟨some 16, .call ⟨.value (.func 10), #[.tmp 14, .tmp 15], #[34, 42]⟩, 4, none⟩, ⟨some 5, .assign (.tmp 16), 4, none⟩] := vR rfl
@[push_cast] theorem vr4_2 : VR r4_2 [⟨some 17, .move (.tmp 5), 4, none⟩, ⟨some 18, .unOp .not 4 (.tmp 17), 4, none⟩] := vR rfl
@[push_cast] theorem vr4_3 : VR r4_3 [⟨some 19, .call ⟨.value (.func 11), #[], #[]⟩, 4, none⟩, ⟨some 4, .assign (.tmp 19), 4, none⟩] := vR rfl
@[push_cast] theorem vr4_4 : VR r4_4 [⟨some 20, .fieldAddr 34 (.tmp 2) 1, 0, none⟩, ⟨some 21, .load 28 (.tmp 20), 28, none⟩, ⟨some 22, .fieldAddr 34 (.tmp 2) 3, 0, none⟩, ⟨some 23, .load 29 (.tmp 22), 29, none⟩, ⟨some 24, .load 42 (.tmp 3), 42, none⟩, ⟨some 25, .call ⟨.value (.func 14), #[.tmp 21, .tmp 23, .tmp 24], #[28, 29, 42]⟩, 45, none⟩, ⟨some 6, .assign (.tmp 25), 45, none⟩] := vR rfl
@[push_cast] theorem vr4_5 : vc Try.prog (.draw r4_5 3) Q ds σ w = drawn Try.prog [(⟨some 26, .fieldAddr 42 (.tmp 3) 1, 0, none⟩, [3]), (⟨some 27, .load 3 (.tmp 26), 3, none⟩, [26]), (⟨some 28, .fieldAddr 34 (.tmp 2) 3, 0, none⟩, [2]), (⟨some 29, .load 29 (.tmp 28), 29, none⟩, [28]), (⟨some 30, .fieldAddr 34 (.tmp 2) 3, 0, none⟩, [2]), (⟨some 31, .load 29 (.tmp 30), 29, none⟩, [30]), (⟨some 32, .call ⟨.builtin .len, #[.tmp 31], #[29]⟩, 3, none⟩, [31]), (⟨some 33, .binOp .sub 3 (.tmp 32) (.const (.int .i64 1)) 3, 3, none⟩, [32]), (⟨some 34, .indexAddr 29 (.tmp 29) (.tmp 33), 0, none⟩, [29, 33]), (⟨some 35, .load 3 (.tmp 34), 3, none⟩, [34]), (⟨some 36, .call ⟨.builtin .max, #[.tmp 27, .tmp 35], #[3, 3]⟩, 3, none⟩, [27, 35]), (⟨some 7, .assign (.tmp 36), 3, none⟩, [36])] 3 (Q .normal ds) σ w := mk_eq rfl
@[push_cast] theorem vr4_6 : VR r4_6 [⟨some 37, .fieldAddr 42 (.tmp 3) 2, 0, none⟩, ⟨some 38, .load 3 (.tmp 37), 3, none⟩, ⟨some 8, .assign (.tmp 38), 3, none⟩] := vR rfl
@[push_cast] theorem vr4_7 : VR r4_7 [⟨some 9, .assign (.const (.int .i64 0)), 3, none⟩] := vR rfl
@[push_cast] theorem vr4_8 : VR r4_8 [⟨some 39, .move (.tmp 9), 3, none⟩, ⟨some 40, .move (.tmp 6), 45, none⟩, ⟨some 41, .call ⟨.builtin .len, #[.tmp 40], #[45]⟩, 3, none⟩, ⟨some 42, .binOp .lss 3 (.tmp 39) (.tmp 41) 3, 4, none⟩] := vR rfl
@[push_cast] theorem vr4_10 : vc Try.prog (.draw r4_10 6) Q ds σ w = drawn Try.prog [(⟨some 45, .move (.tmp 6), 45, none⟩, [6]), (⟨some 46, .move (.tmp 9), 3, none⟩, [9]), (⟨some 47, .indexAddr 45 (.tmp 45) (.tmp 46), 0, none⟩, [45, 46]), (⟨some 48, .fieldAddr 49 (.tmp 47) 1, 0, none⟩, [47]), (⟨some 49, .load 3 (.tmp 48), 3, none⟩, [48]), (⟨some 50, .move (.tmp 8), 3, none⟩, [8]), (⟨some 51, .binOp .neq 3 (.tmp 49) (.tmp 50) 3, 4, none⟩, [49, 50]), (⟨some 52, .move (.tmp 51), 4, none⟩, [51]), (⟨some 53, .move (.tmp 6), 45, some (52, false)⟩, [6, 52]), (⟨some 54, .move (.tmp 9), 3, some (52, false)⟩, [9, 52]), (⟨some 55, .indexAddr 45 (.tmp 53) (.tmp 54), 0, some (52, false)⟩, [53, 54, 52]), (⟨some 56, .fieldAddr 49 (.tmp 55) 0, 0, some (52, false)⟩, [55, 52]), (⟨some 57, .load 3 (.tmp 56), 3, some (52, false)⟩, [56, 52]), (⟨some 58, .move (.tmp 8), 3, some (52, false)⟩, [8, 52]), (⟨some 59, .binOp .geq 3 (.tmp 57) (.tmp 58) 3, 4, some (52, false)⟩, [57, 58, 52]), (⟨some 60, .pick (.tmp 52) (.const (.bool true)) (.tmp 59), 4, none⟩, [52, 59]), (⟨some 61, .move (.tmp 60), 4, none⟩, [60]), (⟨some 62, .move (.tmp 9), 3, some (61, false)⟩, [9, 61]), (⟨some 63, .binOp .gtr 3 (.tmp 62) (.const (.int .i64 0)) 3, 4, some (61, false)⟩, [62, 61]), (⟨some 64, .move (.tmp 63), 4, some (61, false)⟩, [63, 61]), (⟨some 65, .move (.tmp 6), 45, some (64, true)⟩, [6, 64]), (⟨some 66, .move (.tmp 9), 3, some (64, true)⟩, [9, 64]), (⟨some 67, .indexAddr 45 (.tmp 65) (.tmp 66), 0, some (64, true)⟩, [65, 66, 64]), (⟨some 68, .fieldAddr 49 (.tmp 67) 2, 0, some (64, true)⟩, [67, 64]), (⟨some 69, .load 3 (.tmp 68), 3, some (64, true)⟩, [68, 64]), (⟨some 70, .move (.tmp 6), 45, some (64, true)⟩, [6, 64]), (⟨some 71, .move (.tmp 9), 3, some (64, true)⟩, [9, 64]), (⟨some 72, .binOp .sub 3 (.tmp 71) (.const (.int .i64 1)) 3, 3, some (64, true)⟩, [71, 64]), (⟨some 73, .indexAddr 45 (.tmp 70) (.tmp 72), 0, some (64, true)⟩, [70, 72, 64]), (⟨some 74, .fieldAddr 49 (.tmp 73) 2, 0, some (64, true)⟩, [73, 64]), (⟨some 75, .load 3 (.tmp 74), 3, some (64, true)⟩, [74, 64]), (⟨some 76, .binOp .leq 3 (.tmp 69) (.tmp 75) 3, 4, some (64, true)⟩, [69, 75, 64]), (⟨some 77, .pick (.tmp 64) (.tmp 76) (.const (.bool false)), 4, some (61, false)⟩, [64, 76, 61]), (⟨some 78, .pick (.tmp 61) (.const (.bool true)) (.tmp 77), 4, none⟩, [61, 77]), (⟨some 79, .move (.tmp 78), 4, none⟩, [78]), (⟨some 80, .move (.tmp 6), 45, some (79, false)⟩, [6, 79]), (⟨some 81, .move (.tmp 9), 3, some (79, false)⟩, [9, 79]), (⟨some 82, .indexAddr 45 (.tmp 80) (.tmp 81), 0, some (79, false)⟩, [80, 81, 79]), (⟨some 83, .fieldAddr 49 (.tmp 82) 3, 0, some (79, false)⟩, [82, 79]), (⟨some 84, .load 3 (.tmp 83), 3, some (79, false)⟩, [83, 79]), (⟨some 85, .binOp .neq 3 (.tmp 84) (.const (.int .i64 (-1))) 3, 4, some (79, false)⟩, [84, 79]), (⟨some 86, .pick (.tmp 79) (.const (.bool true)) (.tmp 85), 4, none⟩, [79, 85])] 6 (Q .normal ds) σ w := mk_eq rfl
@[push_cast] theorem vr4_11 : VR r4_11 [⟨some 4, .assign (.const (.bool false)), 4, none⟩] := vR rfl
@[push_cast] theorem vr4_12 : VR r4_12 [⟨some 87, .move (.tmp 6), 45, none⟩, ⟨some 88, .move (.tmp 9), 3, none⟩, ⟨some 89, .indexAddr 45 (.tmp 87) (.tmp 88), 0, none⟩, ⟨some 90, .fieldAddr 49 (.tmp 89) 0, 0, none⟩, ⟨some 91, .load 3 (.tmp 90), 3, none⟩, ⟨some 8, .assign (.tmp 91), 3, none⟩] := vR rfl
@[push_cast] theorem vr4_9 : VR r4_9 [⟨some 43, .move (.tmp 9), 3, none⟩, ⟨some 44, .binOp .add 3 (.tmp 43) (.const (.int .i64 1)) 3, 3, none⟩, ⟨some 9, .assign (.tmp 44), 3, none⟩] := vR rfl
@[push_cast] theorem vr4_13 : VR r4_13 [⟨some 92, .move (.tmp 6), 45, none⟩, ⟨some 93, .call ⟨.builtin .len, #[.tmp 92], #[45]⟩, 3, none⟩, ⟨some 94, .binOp .eql 3 (.tmp 93) (.const (.int .i64 0)) 3, 4, none⟩, ⟨some 95, .move (.tmp 7), 3, none⟩, ⟨some 96, .fieldAddr 42 (.tmp 3) 2, 0, none⟩, ⟨some 97, .load 3 (.tmp 96), 3, none⟩, ⟨some 98, .binOp .geq 3 (.tmp 95) (.tmp 97) 3, 4, none⟩, ⟨some 99, .binOp .neq 4 (.tmp 94) (.tmp 98) 4, 4, none⟩, ⟨some 100, .move (.tmp 99), 4, none⟩, ⟨some 101, .move (.tmp 6), 45, some (100, false)⟩, ⟨some 102, .call ⟨.builtin .len, #[.tmp 101], #[45]⟩, 3, some (100, false)⟩, ⟨some 103, .binOp .gtr 3 (.tmp 102) (.const (.int .i64 0)) 3, 4, some (100, false)⟩, ⟨some 104, .move (.tmp 103), 4, some (100, false)⟩, ⟨some 105, .move (.tmp 8), 3, some (104, true)⟩, ⟨some 106, .move (.tmp 7), 3, some (104, true)⟩, ⟨some 107, .binOp .neq 3 (.tmp 105) (.tmp 106) 3, 4, some (104, true)⟩, ⟨some 108, .pick (.tmp 104) (.tmp 107) (.const (.bool false)), 4, some (100, false)⟩, ⟨some 109, .pick (.tmp 100) (.const (.bool true)) (.tmp 108), 4, none⟩] := vR rfl
@[push_cast] theorem vr4_14 : VR r4_14 [⟨some 4, .assign (.const (.bool false)), 4, none⟩] := vR rfl
@[push_cast] theorem vr4_15 : VR r4_15 [⟨some 111, .fieldAddr 34 (.tmp 2) 0, 0, none⟩, ⟨some 112, .load 24 (.tmp 111), 24, none⟩, ⟨some 113, .fieldAddr 34 (.tmp 2) 1, 0, none⟩, ⟨some 114, .load 28 (.tmp 113), 28, none⟩, ⟨some 115, .fieldAddr 34 (.tmp 2) 3, 0, none⟩, ⟨some 116, .load 29 (.tmp 115), 29, none⟩, ⟨some 117, .load 42 (.tmp 3), 42, none⟩, ⟨some 118, .fieldAddr 34 (.tmp 2) 5, 0, none⟩, ⟨some 119, .load 32 (.tmp 118), 32, none⟩, ⟨some 120, .call ⟨.value (.func 17), #[.tmp 112, .tmp 114, .tmp 116, .tmp 117, .tmp 119], #[24, 28, 29, 42, 32]⟩, 54, none⟩, ⟨some 110, .move (.tmp 120), 54, none⟩, ⟨some 121, .extract (.tmp 110) 0, 45, none⟩, ⟨some 122, .extract (.tmp 110) 1, 3, none⟩, ⟨some 123, .extract (.tmp 110) 2, 53, none⟩, ⟨some 10, .assign (.tmp 121), 45, none⟩, ⟨some 11, .assign (.tmp 122), 3, none⟩, ⟨some 12, .assign (.tmp 123), 53, none⟩] := vR rfl
@[push_cast] theorem vr4_16 : VR r4_16 [⟨some 124, .move (.tmp 12), 53, none⟩, ⟨some 125, .binOp .neq 53 (.tmp 124) (.const (.int .i64 0)) 53, 4, none⟩] := vR rfl
@[push_cast] theorem vr4_17 : VR r4_17 [⟨some 126, .call ⟨.value (.func 11), #[], #[]⟩, 4, none⟩, ⟨some 127, .move (.tmp 126), 4, none⟩, ⟨some 128, .move (.tmp 10), 45, some (127, true)⟩, ⟨some 129, .call ⟨.builtin .len, #[.tmp 128], #[45]⟩, 3, some (127, true)⟩, ⟨some 130, .binOp .eql 3 (.tmp 129) (.const (.int .i64 0)) 3, 4, some (127, true)⟩, ⟨some 131, .pick (.tmp 127) (.tmp 130) (.const (.bool false)), 4, none⟩, ⟨some 4, .assign (.tmp 131), 4, none⟩] := vR rfl
@[push_cast] theorem vr4_18 : VR r4_18 [⟨some 13, .assign (.const (.int .i64 0)), 3, none⟩] := vR rfl
@[push_cast] theorem vr4_19 : VR r4_19 [⟨some 132, .move (.tmp 13), 3, none⟩, ⟨some 133, .move (.tmp 10), 45, none⟩, ⟨some 134, .call ⟨.builtin .len, #[.tmp 133], #[45]⟩, 3, none⟩, ⟨some 135, .binOp .lss 3 (.tmp 132) (.tmp 134) 3, 4, none⟩] := vR rfl
@[push_cast] theorem vr4_21 : vc Try.prog (.draw r4_21 4) Q ds σ w = drawn Try.prog [(⟨some 138, .move (.tmp 10), 45, none⟩, [10]), (⟨some 139, .move (.tmp 13), 3, none⟩, [13]), (⟨some 140, .indexAddr 45 (.tmp 138) (.tmp 139), 0, none⟩, [138, 139]), (⟨some 141, .fieldAddr 49 (.tmp 140) 0, 0, none⟩, [140]), (⟨some 142, .load 3 (.tmp 141), 3, none⟩, [141]), (⟨some 143, .move (.tmp 6), 45, none⟩, [6]), (⟨some 144, .move (.tmp 13), 3, none⟩, [13]), (⟨some 145, .indexAddr 45 (.tmp 143) (.tmp 144), 0, none⟩, [143, 144]), (⟨some 146, .fieldAddr 49 (.tmp 145) 0, 0, none⟩, [145]), (⟨some 147, .load 3 (.tmp 146), 3, none⟩, [146]), (⟨some 148, .binOp .neq 3 (.tmp 142) (.tmp 147) 3, 4, none⟩, [142, 147]), (⟨some 149, .move (.tmp 148), 4, none⟩, [148]), (⟨some 150, .move (.tmp 10), 45, some (149, false)⟩, [10, 149]), (⟨some 151, .move (.tmp 13), 3, some (149, false)⟩, [13, 149]), (⟨some 152, .indexAddr 45 (.tmp 150) (.tmp 151), 0, some (149, false)⟩, [150, 151, 149]), (⟨some 153, .fieldAddr 49 (.tmp 152) 1, 0, some (149, false)⟩, [152, 149]), (⟨some 154, .load 3 (.tmp 153), 3, some (149, false)⟩, [153, 149]), (⟨some 155, .move (.tmp 6), 45, some (149, false)⟩, [6, 149]), (⟨some 156, .move (.tmp 13), 3, some (149, false)⟩, [13, 149]), (⟨some 157, .indexAddr 45 (.tmp 155) (.tmp 156), 0, some (149, false)⟩, [155, 156, 149]), (⟨some 158, .fieldAddr 49 (.tmp 157) 1, 0, some (149, false)⟩, [157, 149]), (⟨some 159, .load 3 (.tmp 158), 3, some (149, false)⟩, [158, 149]), (⟨some 160, .binOp .neq 3 (.tmp 154) (.tmp 159) 3, 4, some (149, false)⟩, [154, 159, 149]), (⟨some 161, .pick (.tmp 149) (.const (.bool true)) (.tmp 160), 4, none⟩, [149, 160]), (⟨some 162, .move (.tmp 161), 4, none⟩, [161]), (⟨some 163, .move (.tmp 10), 45, some (162, false)⟩, [10, 162]), (⟨some 164, .move (.tmp 13), 3, some (162, false)⟩, [13, 162]), (⟨some 165, .indexAddr 45 (.tmp 163) (.tmp 164), 0, some (162, false)⟩, [163, 164, 162]), (⟨some 166, .fieldAddr 49 (.tmp 165) 2, 0, some (162, false)⟩, [165, 162]), (⟨some 167, .load 3 (.tmp 166), 3, some (162, false)⟩, [166, 162]), (⟨some 168, .move (.tmp 6), 45, some (162, false)⟩, [6, 162]), (⟨some 169, .move (.tmp 13), 3, some (162, false)⟩, [13, 162]), (⟨some 170, .indexAddr 45 (.tmp 168) (.tmp 169), 0, some (162, false)⟩, [168, 169, 162]), (⟨some 171, .fieldAddr 49 (.tmp 170) 2, 0, some (162, false)⟩, [170, 162]), (⟨some 172, .load 3 (.tmp 171), 3, some (162, false)⟩, [171, 162]), (⟨some 173, .binOp .neq 3 (.tmp 167) (.tmp 172) 3, 4, some (162, false)⟩, [167, 172, 162]), (⟨some 174, .pick (.tmp 162) (.const (.bool true)) (.tmp 173), 4, none⟩, [162, 173]), (⟨some 175, .move (.tmp 174), 4, none⟩, [174]), (⟨some 176, .fieldAddr 34 (.tmp 2) 0, 0, some (175, false)⟩, [2, 175]), (⟨some 177, .load 24 (.tmp 176), 24, some (175, false)⟩, [176, 175]), (⟨some 178, .fieldAddr 34 (.tmp 2) 1, 0, some (175, false)⟩, [2, 175]), (⟨some 179, .load 28 (.tmp 178), 28, some (175, false)⟩, [178, 175]), (⟨some 180, .load 42 (.tmp 3), 42, some (175, false)⟩, [3, 175]), (⟨some 181, .move (.tmp 10), 45, some (175, false)⟩, [10, 175]), (⟨some 182, .move (.tmp 13), 3, some (175, false)⟩, [13, 175]), (⟨some 183, .indexAddr 45 (.tmp 181) (.tmp 182), 0, some (175, false)⟩, [181, 182, 175]), (⟨some 184, .load 49 (.tmp 183), 49, some (175, false)⟩, [183, 175]), (⟨some 185, .call ⟨.value (.func 15), #[.tmp 177, .tmp 179, .tmp 180, .tmp 184], #[24, 28, 42, 49]⟩, 4, some (175, false)⟩, [177, 179, 180, 184, 175]), (⟨some 186, .unOp .not 4 (.tmp 185), 4, some (175, false)⟩, [185, 175]), (⟨some 187, .pick (.tmp 175) (.const (.bool true)) (.tmp 186), 4, none⟩, [175, 186])] 4 (Q .normal ds) σ w := mk_eq rfl
@[push_cast] theorem vr4_22 : VR r4_22 [⟨some 4, .assign (.const (.bool false)), 4, none⟩] := vR rfl
@[push_cast] theorem vr4_20 : VR r4_20 [⟨some 136, .move (.tmp 13), 3, none⟩, ⟨some 137, .binOp .add 3 (.tmp 136) (.const (.int .i64 1)) 3, 3, none⟩, ⟨some 13, .assign (.tmp 137), 3, none⟩] := vR rfl
@[push_cast] theorem vr4_23 : VR r4_23 [⟨some 188, .call ⟨.value (.func 11), #[], #[]⟩, 4, none⟩, ⟨some 189, .move (.tmp 188), 4, none⟩, ⟨some 190, .move (.tmp 10), 45, some (189, true)⟩, ⟨some 191, .call ⟨.builtin .len, #[.tmp 190], #[45]⟩, 3, some (189, true)⟩, ⟨some 192, .move (.tmp 6), 45, some (189, true)⟩, ⟨some 193, .call ⟨.builtin .len, #[.tmp 192], #[45]⟩, 3, some (189, true)⟩, ⟨some 194, .binOp .eql 3 (.tmp 191) (.tmp 193) 3, 4, some (189, true)⟩, ⟨some 195, .pick (.tmp 189) (.tmp 194) (.const (.bool false)), 4, none⟩, ⟨some 4, .assign (.tmp 195), 4, none⟩] := vR rfl
/-! 5 columbary/columbarylaw26.SelectorLeast (params #[34, 42], results #[(.tmp 4)], 137 slots) -/
def W5_0 : List Nat := [4, 10, 11, 12, 13, 14, 15, 42, 43, 44, 45, 46, 47, 48, 49, 50, 51, 52, 53, 54, 55, 56, 57, 58, 59, 60, 61, 62, 63, 64, 65, 66, 67, 68, 69, 70, 71, 72, 73, 74, 75, 76, 77, 78, 79, 80, 81, 82, 83, 84, 85, 86, 87, 88, 89, 90, 91, 92, 93, 94, 95, 96, 97, 98, 99, 100, 101, 102, 103, 104, 105, 106, 107, 108, 109, 110, 111, 112, 113, 114, 115, 116, 117, 118, 119, 120, 121, 122, 123, 124, 125, 126, 127, 128, 129, 130, 131, 132, 133, 134, 135]
@[push_cast] theorem W5_0_def : W5_0 = [4, 10, 11, 12, 13, 14, 15, 42, 43, 44, 45, 46, 47, 48, 49, 50, 51, 52, 53, 54, 55, 56, 57, 58, 59, 60, 61, 62, 63, 64, 65, 66, 67, 68, 69, 70, 71, 72, 73, 74, 75, 76, 77, 78, 79, 80, 81, 82, 83, 84, 85, 86, 87, 88, 89, 90, 91, 92, 93, 94, 95, 96, 97, 98, 99, 100, 101, 102, 103, 104, 105, 106, 107, 108, 109, 110, 111, 112, 113, 114, 115, 116, 117, 118, 119, 120, 121, 122, 123, 124, 125, 126, 127, 128, 129, 130, 131, 132, 133, 134, 135] := mk_eq rfl
def W5_1 : List Nat := [4, 12, 13, 14, 15, 58, 59, 60, 61, 62, 63, 64, 65, 66, 67, 68, 69, 70, 71, 72, 73, 74, 75, 76, 77, 78, 79, 80, 81, 82, 83, 84, 85, 86, 87, 88, 89, 90, 91, 92, 93, 94, 95, 96, 97, 98, 99, 100, 101, 102, 103, 104, 105, 106, 107, 108, 109, 110, 111, 112, 113, 114, 115, 116, 117, 118, 119, 120]
@[push_cast] theorem W5_1_def : W5_1 = [4, 12, 13, 14, 15, 58, 59, 60, 61, 62, 63, 64, 65, 66, 67, 68, 69, 70, 71, 72, 73, 74, 75, 76, 77, 78, 79, 80, 81, 82, 83, 84, 85, 86, 87, 88, 89, 90, 91, 92, 93, 94, 95, 96, 97, 98, 99, 100, 101, 102, 103, 104, 105, 106, 107, 108, 109, 110, 111, 112, 113, 114, 115, 116, 117, 118, 119, 120] := mk_eq rfl
def r5_0 : List VOp :=
  [⟨some 2, .box 34 (.tmp 0), 0, none⟩,
   ⟨some 3, .box 42 (.tmp 1), 0, none⟩,
   ⟨some 4, .assign (.const (.bool false)), 4, none⟩]
def r5_1 : List VOp :=
  [lda 16 34 2,
   lda 17 42 3,
   ⟨some 18, .call ⟨.value (.func 10), #[.tmp 16, .tmp 17], #[34, 42]⟩, 4, none⟩,
   asg 5 18 4]
def r5_2 : List VOp :=
  [mv 19 5 4,
   ⟨some 20, .unOp .not 4 (.tmp 19), 4, none⟩]
def r5_3 : List VOp :=
  [⟨some 21, .call ⟨.value (.func 11), #[], #[]⟩, 4, none⟩,
   asg 4 21 4]
def r5_4 : List VOp :=
  [fad 22 34 2 1,
   lda 23 28 22,
   fad 24 34 2 3,
   lda 25 29 24,
   lda 26 42 3,
   ⟨some 27, .call ⟨.value (.func 14), #[.tmp 23, .tmp 25, .tmp 26], #[28, 29, 42]⟩, 45, none⟩,
   asg 6 27 45]
def r5_5 : List VOp :=
  [fad 29 34 2 0,
   lda 30 24 29,
   fad 31 34 2 1,
   lda 32 28 31,
   fad 33 34 2 3,
   lda 34 29 33,
   lda 35 42 3,
   fad 36 34 2 5,
   lda 37 32 36,
   ⟨some 38, .call ⟨.value (.func 17), #[.tmp 30, .tmp 32, .tmp 34, .tmp 35, .tmp 37], #[24, 28, 29, 42, 32]⟩, 54, none⟩,
   mv 28 38 54,
   ext 39 28 0 45,
   ext 40 28 1 3,
   ext 41 28 2 53,
   asg 7 39 45,
   asg 8 40 3,
   asg 9 41 53]
def r5_6 : List VOp :=
  [⟨some 10, .assign (.const (.int .i64 0)), 3, none⟩]
def r5_7 : List VOp :=
  [mv 42 10 3,
   mv 43 6 45,
   ⟨some 44, .call ⟨.builtin .len, #[.tmp 43], #[45]⟩, 3, none⟩,
   ⟨some 45, .binOp .lss 3 (.tmp 42) (.tmp 44) 3, 4, none⟩]
def r5_9 : List VOp :=
  [fad 48 34 2 0,
   lda 49 24 48,
   fad 50 34 2 1,
   lda 51 28 50,
   lda 52 42 3,
   mv 53 6 45,
   mv 54 10 3,
   iad 55 45 53 54,
   lda 56 49 55,
   ⟨some 57, .call ⟨.value (.func 15), #[.tmp 49, .tmp 51, .tmp 52, .tmp 56], #[24, 28, 42, 49]⟩, 4, none⟩,
   asg 11 57 4]
def r5_10 : List VOp :=
  [⟨some 12, .assign (.const (.int .i64 0)), 3, none⟩]
def r5_11 : List VOp :=
  [mv 58 12 3,
   fad 59 34 2 5,
   lda 60 32 59,
   ⟨some 61, .call ⟨.builtin .len, #[.tmp 60], #[32]⟩, 3, none⟩,
   ⟨some 62, .binOp .lss 3 (.tmp 58) (.tmp 61) 3, 4, none⟩]
def r5_13 : List VOp :=
  [fad 65 34 2 5,
   lda 66 32 65,
   mv 67 12 3,
   iad 68 32 66 67,
   lda 69 57 68,
   ⟨some 13, .alloc 57, 0, none⟩,
   ⟨none, .store 57 (.tmp 13) (.tmp 69), 0, none⟩]
def r5_14 : List VOp :=
  [fad 70 57 13 1,
   lda 71 3 70,
   mv 72 6 45,
   mv 73 10 3,
   iad 74 45 72 73,
   fad 75 49 74 2,
   lda 76 3 75,
   ⟨some 77, .binOp .neq 3 (.tmp 71) (.tmp 76) 3, 4, none⟩]
def r5_15 : List VOp :=
  [mv 78 6 45,
   mv 79 10 3,
   iad 80 45 78 79,
   lda 81 49 80,
   ⟨some 14, .alloc 49, 0, none⟩,
   ⟨none, .store 49 (.tmp 14) (.tmp 81), 0, none⟩]
def r5_16 : List VOp :=
  [fad 82 57 13 2,
   lda 83 3 82,
   fad 84 49 14 3,
   ⟨none, .store 3 (.tmp 84) (.tmp 83), 0, none⟩]
def r5_17 : List VOp :=
  [fad 85 34 2 0,
   lda 86 24 85,
   fad 87 34 2 1,
   lda 88 28 87,
   lda 89 42 3,
   lda 90 49 14,
   ⟨some 91, .call ⟨.value (.func 15), #[.tmp 86, .tmp 88, .tmp 89, .tmp 90], #[24, 28, 42, 49]⟩, 4, none⟩,
   asg 15 91 4]
def r5_18 : List VOp :=
  [mv 92 15 4,
   mv 93 92 4,
   ⟨some 94, .move (.tmp 11), 4, some (93, true)⟩,
   ⟨some 95, .unOp .not 4 (.tmp 94), 4, some (93, true)⟩,
   ⟨some 96, .move (.tmp 95), 4, some (93, true)⟩,
   ⟨some 97, .move (.tmp 9), 53, some (96, false)⟩,
   ⟨some 98, .binOp .eql 53 (.tmp 97) (.const (.int .i64 0)) 53, 4, some (96, false)⟩,
   ⟨some 99, .move (.tmp 98), 4, some (96, false)⟩,
   ⟨some 100, .fieldAddr 57 (.tmp 13) 3, 0, some (99, true)⟩,
   ⟨some 101, .load 3 (.tmp 100), 3, some (99, true)⟩,
   ⟨some 102, .move (.tmp 7), 45, some (99, true)⟩,
   ⟨some 103, .move (.tmp 10), 3, some (99, true)⟩,
   ⟨some 104, .indexAddr 45 (.tmp 102) (.tmp 103), 0, some (99, true)⟩,
   ⟨some 105, .fieldAddr 49 (.tmp 104) 4, 0, some (99, true)⟩,
   ⟨some 106, .load 3 (.tmp 105), 3, some (99, true)⟩,
   ⟨some 107, .binOp .lss 3 (.tmp 101) (.tmp 106) 3, 4, some (99, true)⟩,
   ⟨some 108, .pick (.tmp 99) (.tmp 107) (.const (.bool false)), 4, some (96, false)⟩,
   ⟨some 109, .pick (.tmp 96) (.const (.bool true)) (.tmp 108), 4, some (93, true)⟩,
   ⟨some 110, .move (.tmp 109), 4, some (93, true)⟩,
   ⟨some 111, .move (.tmp 9), 53, some (110, false)⟩,
   ⟨some 112, .binOp .neq 53 (.tmp 111) (.const (.int .i64 0)) 53, 4, some (110, false)⟩,
   ⟨some 113, .move (.tmp 112), 4, some (110, false)⟩,
   ⟨some 114, .fieldAddr 57 (.tmp 13) 1, 0, some (113, true)⟩,
   ⟨some 115, .load 3 (.tmp 114), 3, some (113, true)⟩,
   ⟨some 116, .move (.tmp 8), 3, some (113, true)⟩,
   ⟨some 117, .binOp .eql 3 (.tmp 115) (.tmp 116) 3, 4, some (113, true)⟩,
   ⟨some 118, .pick (.tmp 113) (.tmp 117) (.const (.bool false)), 4, some (110, false)⟩,
   ⟨some 119, .pick (.tmp 110) (.const (.bool true)) (.tmp 118), 4, some (93, true)⟩,
   ⟨some 120, .pick (.tmp 93) (.tmp 119) (.const (.bool false)), 4, none⟩]
def r5_19 : List VOp :=
  [⟨some 4, .assign (.const (.bool false)), 4, none⟩]
def r5_12 : List VOp :=
  [mv 63 12 3,
   ⟨some 64, .binOp .add 3 (.tmp 63) (.const (.int .i64 1)) 3, 3, none⟩,
   asg 12 64 3]
def r5_20 : List VOp :=
  [mv 121 11 4,
   ⟨some 122, .unOp .not 4 (.tmp 121), 4, none⟩,
   mv 123 122 4,
   ⟨some 124, .move (.tmp 9), 53, some (123, true)⟩,
   ⟨some 125, .binOp .eql 53 (.tmp 124) (.const (.int .i64 0)) 53, 4, some (123, true)⟩,
   ⟨some 126, .move (.tmp 125), 4, some (123, true)⟩,
   ⟨some 127, .move (.tmp 8), 3, some (126, false)⟩,
   ⟨some 128, .move (.tmp 6), 45, some (126, false)⟩,
   ⟨some 129, .move (.tmp 10), 3, some (126, false)⟩,
   ⟨some 130, .indexAddr 45 (.tmp 128) (.tmp 129), 0, some (126, false)⟩,
   ⟨some 131, .fieldAddr 49 (.tmp 130) 2, 0, some (126, false)⟩,
   ⟨some 132, .load 3 (.tmp 131), 3, some (126, false)⟩,
   ⟨some 133, .binOp .gtr 3 (.tmp 127) (.tmp 132) 3, 4, some (126, false)⟩,
   ⟨some 134, .pick (.tmp 126) (.const (.bool true)) (.tmp 133), 4, some (123, true)⟩,
   ⟨some 135, .pick (.tmp 123) (.tmp 134) (.const (.bool false)), 4, none⟩]
def r5_21 : List VOp :=
  [⟨some 4, .assign (.const (.bool false)), 4, none⟩]
def r5_8 : List VOp :=
  [mv 46 10 3,
   ⟨some 47, .binOp .add 3 (.tmp 46) (.const (.int .i64 1)) 3, 3, none⟩,
   asg 10 47 3]
def r5_22 : List VOp :=
  [⟨some 136, .call ⟨.value (.func 11), #[], #[]⟩, 4, none⟩,
   asg 4 136 4]
def B5 : VC :=
  (.seq (.region r5_0) (.seq (.region r5_1) (.seq (.seq (.region r5_2) (.cond (.tmp 20) (.seq (.region r5_3) .ret) .skip)) (.seq (.region r5_4) (.seq (.region r5_5) (.seq (.seq (.region r5_6) (.block 0 (.loop (.seq (.seq (.region r5_7) (.cond (.tmp 45) .skip (.exit 0))) (.seq (.block 1 (.seq (.draw r5_9 3) (.seq (.seq (.region r5_10) (.block 2 (.loop (.seq (.seq (.region r5_11) (.cond (.tmp 62) .skip (.exit 2))) (.seq (.block 3 (.seq (.region r5_13) (.seq (.seq (.draw r5_14 2) (.cond (.tmp 77) (.exit 3) .skip)) (.seq (.region r5_15) (.seq (.region r5_16) (.seq (.region r5_17) (.seq (.draw r5_18 5) (.cond (.tmp 120) (.seq (.region r5_19) .ret) .skip)))))))) (.region r5_12)))))) (.seq (.region r5_20) (.cond (.tmp 135) (.seq (.region r5_21) .ret) .skip))))) (.region r5_8)))))) (.seq (.region r5_22) .ret)))))))
theorem code5 : ∃ c, Try.f5.body = some c ∧ abs Try.f5.ntmps c = B5 := ⟨_, rfl, by kernel_rfl⟩
theorem hb5 : HasBody Try.prog 5 := hasBody_of Try.func5 (by kernel_rfl)
theorem res5 : Try.f5.results = #[(.tmp 4)] := rfl
theorem enter5 {w : World} {R : Value → World → Prop} (x0 x1 : Value) (h : vc Try.prog B5 (retK Try.prog #[(.tmp 4)] R) [] (initEnv [x0, x1] 0) w) : FnC Try.prog 5 #[x0, x1] w R := by
  obtain ⟨c, h1, h2⟩ := code5
  exact hb5.fn (ret_of_vc mixed Try.func5 h1 (Nat.le_of_ble_eq_true rfl) B5 h2 h)
@[push_cast] theorem vr5_0 : VR r5_0 [⟨some 2, .box 34 (.tmp 0), 0, none⟩, ⟨some 3, .box 42 (.tmp 1), 0, none⟩, ⟨some 4, .assign (.const (.bool false)), 4, none⟩] := vR rfl
@[push_cast] theorem vr5_1 : VR r5_1 [⟨some 16, .load 34 (.tmp 2), 34, none⟩, ⟨some 17, .load 42 (.tmp 3), 42, none⟩, ⟨some 18, .call ⟨.value (.func 10), #[.tmp 16, .tmp 17], #[34, 42]⟩, 4, none⟩, ⟨some 5, .assign (.tmp 18), 4, none⟩] := vR rfl
@[push_cast] theorem vr5_2 : VR r5_2 [⟨some 19, .move (.tmp 5), 4, none⟩, ⟨some 20, .unOp .not 4 (.tmp 19), 4, none⟩] := vR rfl
@[push_cast] theorem vr5_3 : VR r5_3 [⟨some 21, .call ⟨.value (.func 11), #[], #[]⟩, 4, none⟩, ⟨some 4, .assign (.tmp 21), 4, none⟩] := vR rfl
@[push_cast] theorem vr5_4 : VR r5_4 [⟨some 22, .fieldAddr 34 (.tmp 2) 1, 0, none⟩, ⟨some 23, .load 28 (.tmp 22), 28, none⟩, ⟨some 24, .fieldAddr 34 (.tmp 2) 3, 0, none⟩, ⟨some 25, .load 29 (.tmp 24), 29, none⟩, ⟨some 26, .load 42 (.tmp 3), 42, none⟩, ⟨some 27, .call ⟨.value (.func 14), #[.tmp 23, .tmp 25, .tmp 26], #[28, 29, 42]⟩, 45, none⟩, ⟨some 6, .assign (.tmp 27), 45, none⟩] := vR rfl
@[push_cast] theorem vr5_5 : VR r5_5 [⟨some 29, .fieldAddr 34 (.tmp 2) 0, 0, none⟩, ⟨some 30, .load 24 (.tmp 29), 24, none⟩, ⟨some 31, .fieldAddr 34 (.tmp 2) 1, 0, none⟩, ⟨some 32, .load 28 (.tmp 31), 28, none⟩, ⟨some 33, .fieldAddr 34 (.tmp 2) 3, 0, none⟩, ⟨some 34, .load 29 (.tmp 33), 29, none⟩, ⟨some 35, .load 42 (.tmp 3), 42, none⟩, ⟨some 36, .fieldAddr 34 (.tmp 2) 5, 0, none⟩, ⟨some 37, .load 32 (.tmp 36), 32, none⟩, ⟨some 38, .call ⟨.value (.func 17), #[.tmp 30, .tmp 32, .tmp 34, .tmp 35, .tmp 37], #[24, 28, 29, 42, 32]⟩, 54, none⟩, ⟨some 28, .move (.tmp 38), 54, none⟩, ⟨some 39, .extract (.tmp 28) 0, 45, none⟩, ⟨some 40, .extract (.tmp 28) 1, 3, none⟩, ⟨some 41, .extract (.tmp 28) 2, 53, none⟩, ⟨some 7, .assign (.tmp 39), 45, none⟩, ⟨some 8, .assign (.tmp 40), 3, none⟩, ⟨some 9, .assign (.tmp 41), 53, none⟩] := vR rfl
@[push_cast] theorem vr5_6 : VR r5_6 [⟨some 10, .assign (.const (.int .i64 0)), 3, none⟩] := vR rfl
@[push_cast] theorem vr5_7 : VR r5_7 [⟨some 42, .move (.tmp 10), 3, none⟩, ⟨some 43, .move (.tmp 6), 45, none⟩, ⟨some 44, .call ⟨.builtin .len, #[.tmp 43], #[45]⟩, 3, none⟩, ⟨some 45, .binOp .lss 3 (.tmp 42) (.tmp 44) 3, 4, none⟩] := vR rfl
@[push_cast] theorem vr5_9 : vc Try.prog (.draw r5_9 3) Q ds σ w = drawn Try.prog [(⟨some 48, .fieldAddr 34 (.tmp 2) 0, 0, none⟩, [2]), (⟨some 49, .load 24 (.tmp 48), 24, none⟩, [48]), (⟨some 50, .fieldAddr 34 (.tmp 2) 1, 0, none⟩, [2]), (⟨some 51, .load 28 (.tmp 50), 28, none⟩, [50]), (⟨some 52, .load 42 (.tmp 3), 42, none⟩, [3]), (⟨some 53, .move (.tmp 6), 45, none⟩, [6]), (⟨some 54, .move (.tmp 10), 3, none⟩, [10]), (⟨some 55, .indexAddr 45 (.tmp 53) (.tmp 54), 0, none⟩, [53, 54]), (⟨some 56, .load 49 (.tmp 55), 49, none⟩, [55]), (⟨some 57, .call ⟨.value (.func 15), #[.tmp 49, .tmp 51, .tmp 52, .tmp 56], #[24, 28, 42, 49]⟩, 4, none⟩, [49, 51, 52, 56]), (⟨some 11, .assign (.tmp 57), 4, none⟩, [57])] 3 (Q .normal ds) σ w := mk_eq rfl
@[push_cast] theorem vr5_10 : VR r5_10 [⟨some 12, .assign (.const (.int .i64 0)), 3, none⟩] := vR rfl
@[push_cast] theorem vr5_11 : VR r5_11 [⟨some 58, .move (.tmp 12), 3, none⟩, ⟨some 59, .fieldAddr 34 (.tmp 2) 5, 0, none⟩, ⟨some 60, .load 32 (.tmp 59), 32, none⟩, ⟨some 61, .call ⟨.builtin .len, #[.tmp 60], #[32]⟩, 3, none⟩, ⟨some 62, .binOp .lss 3 (.tmp 58) (.tmp 61) 3, 4, none⟩] := vR rfl
@[push_cast] theorem vr5_13 : VR r5_13 [⟨some 65, .fieldAddr 34 (.tmp 2) 5, 0, none⟩, ⟨some 66, .load 32 (.tmp 65), 32, none⟩, ⟨some 67, .move (.tmp 12), 3, none⟩, ⟨some 68, .indexAddr 32 (.tmp 66) (.tmp 67), 0, none⟩, ⟨some 69, .load 57 (.tmp 68), 57, none⟩, ⟨some 13, .alloc 57, 0, none⟩, ⟨none, .store 57 (.tmp 13) (.tmp 69), 0, none⟩] := vR rfl
@[push_cast] theorem vr5_14 : vc Try.prog (.draw r5_14 2) Q ds σ w = drawn Try.prog [(⟨some 70, .fieldAddr 57 (.tmp 13) 1, 0, none⟩, [13]), (⟨some 71, .load 3 (.tmp 70), 3, none⟩, [70]), (⟨some 72, .move (.tmp 6), 45, none⟩, [6]), (⟨some 73, .move (.tmp 10), 3, none⟩, [10]), (⟨some 74, .indexAddr 45 (.tmp 72) (.tmp 73), 0, none⟩, [72, 73]), (⟨some 75, .fieldAddr 49 (.tmp 74) 2, 0, none⟩, [74]), (⟨some 76, .load 3 (.tmp 75), 3, none⟩, [75]), (⟨some 77, .binOp .neq 3 (.tmp 71) (.tmp 76) 3, 4, none⟩, [71, 76])] 2 (Q .normal ds) σ w := mk_eq rfl
@[push_cast] theorem vr5_15 : VR r5_15 [⟨some 78, .move (.tmp 6), 45, none⟩, ⟨some 79, .move (.tmp 10), 3, none⟩, ⟨some 80, .indexAddr 45 (.tmp 78) (.tmp 79), 0, none⟩, ⟨some 81, .load 49 (.tmp 80), 49, none⟩, ⟨some 14, .alloc 49, 0, none⟩, ⟨none, .store 49 (.tmp 14) (.tmp 81), 0, none⟩] := vR rfl
@[push_cast] theorem vr5_16 : VR r5_16 [⟨some 82, .fieldAddr 57 (.tmp 13) 2, 0, none⟩, ⟨some 83, .load 3 (.tmp 82), 3, none⟩, ⟨some 84, .fieldAddr 49 (.tmp 14) 3, 0, none⟩, ⟨none, .store 3 (.tmp 84) (.tmp 83), 0, none⟩] := vR rfl
@[push_cast] theorem vr5_17 : VR r5_17 [⟨some 85, .fieldAddr 34 (.tmp 2) 0, 0, none⟩, ⟨some 86, .load 24 (.tmp 85), 24, none⟩, ⟨some 87, .fieldAddr 34 (.tmp 2) 1, 0, none⟩, ⟨some 88, .load 28 (.tmp 87), 28, none⟩, ⟨some 89, .load 42 (.tmp 3), 42, none⟩, ⟨some 90, .load 49 (.tmp 14), 49, none⟩, ⟨some 91, .call ⟨.value (.func 15), #[.tmp 86, .tmp 88, .tmp 89, .tmp 90], #[24, 28, 42, 49]⟩, 4, none⟩, ⟨some 15, .assign (.tmp 91), 4, none⟩] := vR rfl
@[push_cast] theorem vr5_18 : vc Try.prog (.draw r5_18 5) Q ds σ w = drawn Try.prog [(⟨some 92, .move (.tmp 15), 4, none⟩, [15]), (⟨some 93, .move (.tmp 92), 4, none⟩, [92]), (⟨some 94, .move (.tmp 11), 4, some (93, true)⟩, [11, 93]), (⟨some 95, .unOp .not 4 (.tmp 94), 4, some (93, true)⟩, [94, 93]), (⟨some 96, .move (.tmp 95), 4, some (93, true)⟩, [95, 93]), (⟨some 97, .move (.tmp 9), 53, some (96, false)⟩, [9, 96]), (⟨some 98, .binOp .eql 53 (.tmp 97) (.const (.int .i64 0)) 53, 4, some (96, false)⟩, [97, 96]), (⟨some 99, .move (.tmp 98), 4, some (96, false)⟩, [98, 96]), (⟨some 100, .fieldAddr 57 (.tmp 13) 3, 0, some (99, true)⟩, [13, 99]), (⟨some 101, .load 3 (.tmp 100), 3, some (99, true)⟩, [100, 99]), (⟨some 102, .move (.tmp 7), 45, some (99, true)⟩, [7, 99]), (⟨some 103, .move (.tmp 10), 3, some (99, true)⟩, [10, 99]), (⟨some 104, .indexAddr 45 (.tmp 102) (.tmp 103), 0, some (99, true)⟩, [102, 103, 99]), (⟨some 105, .fieldAddr 49 (.tmp 104) 4, 0, some (99, true)⟩, [104, 99]), (⟨some 106, .load 3 (.tmp 105), 3, some (99, true)⟩, [105, 99]), (⟨some 107, .binOp .lss 3 (.tmp 101) (.tmp 106) 3, 4, some (99, true)⟩, [101, 106, 99]), (⟨some 108, .pick (.tmp 99) (.tmp 107) (.const (.bool false)), 4, some (96, false)⟩, [99, 107, 96]), (⟨some 109, .pick (.tmp 96) (.const (.bool true)) (.tmp 108), 4, some (93, true)⟩, [96, 108, 93]), (⟨some 110, .move (.tmp 109), 4, some (93, true)⟩, [109, 93]), (⟨some 111, .move (.tmp 9), 53, some (110, false)⟩, [9, 110]), (⟨some 112, .binOp .neq 53 (.tmp 111) (.const (.int .i64 0)) 53, 4, some (110, false)⟩, [111, 110]), (⟨some 113, .move (.tmp 112), 4, some (110, false)⟩, [112, 110]), (⟨some 114, .fieldAddr 57 (.tmp 13) 1, 0, some (113, true)⟩, [13, 113]), (⟨some 115, .load 3 (.tmp 114), 3, some (113, true)⟩, [114, 113]), (⟨some 116, .move (.tmp 8), 3, some (113, true)⟩, [8, 113]), (⟨some 117, .binOp .eql 3 (.tmp 115) (.tmp 116) 3, 4, some (113, true)⟩, [115, 116, 113]), (⟨some 118, .pick (.tmp 113) (.tmp 117) (.const (.bool false)), 4, some (110, false)⟩, [113, 117, 110]), (⟨some 119, .pick (.tmp 110) (.const (.bool true)) (.tmp 118), 4, some (93, true)⟩, [110, 118, 93]), (⟨some 120, .pick (.tmp 93) (.tmp 119) (.const (.bool false)), 4, none⟩, [93, 119])] 5 (Q .normal ds) σ w := mk_eq rfl
@[push_cast] theorem vr5_19 : VR r5_19 [⟨some 4, .assign (.const (.bool false)), 4, none⟩] := vR rfl
@[push_cast] theorem vr5_12 : VR r5_12 [⟨some 63, .move (.tmp 12), 3, none⟩, ⟨some 64, .binOp .add 3 (.tmp 63) (.const (.int .i64 1)) 3, 3, none⟩, ⟨some 12, .assign (.tmp 64), 3, none⟩] := vR rfl
@[push_cast] theorem vr5_20 : VR r5_20 [⟨some 121, .move (.tmp 11), 4, none⟩, ⟨some 122, .unOp .not 4 (.tmp 121), 4, none⟩, ⟨some 123, .move (.tmp 122), 4, none⟩, ⟨some 124, .move (.tmp 9), 53, some (123, true)⟩, ⟨some 125, .binOp .eql 53 (.tmp 124) (.const (.int .i64 0)) 53, 4, some (123, true)⟩, ⟨some 126, .move (.tmp 125), 4, some (123, true)⟩, ⟨some 127, .move (.tmp 8), 3, some (126, false)⟩, ⟨some 128, .move (.tmp 6), 45, some (126, false)⟩, ⟨some 129, .move (.tmp 10), 3, some (126, false)⟩, ⟨some 130, .indexAddr 45 (.tmp 128) (.tmp 129), 0, some (126, false)⟩, ⟨some 131, .fieldAddr 49 (.tmp 130) 2, 0, some (126, false)⟩, ⟨some 132, .load 3 (.tmp 131), 3, some (126, false)⟩, ⟨some 133, .binOp .gtr 3 (.tmp 127) (.tmp 132) 3, 4, some (126, false)⟩, ⟨some 134, .pick (.tmp 126) (.const (.bool true)) (.tmp 133), 4, some (123, true)⟩, ⟨some 135, .pick (.tmp 123) (.tmp 134) (.const (.bool false)), 4, none⟩] := vR rfl
@[push_cast] theorem vr5_21 : VR r5_21 [⟨some 4, .assign (.const (.bool false)), 4, none⟩] := vR rfl
@[push_cast] theorem vr5_8 : VR r5_8 [⟨some 46, .move (.tmp 10), 3, none⟩, ⟨some 47, .binOp .add 3 (.tmp 46) (.const (.int .i64 1)) 3, 3, none⟩, ⟨some 10, .assign (.tmp 47), 3, none⟩] := vR rfl
@[push_cast] theorem vr5_22 : VR r5_22 [⟨some 136, .call ⟨.value (.func 11), #[], #[]⟩, 4, none⟩, ⟨some 4, .assign (.tmp 136), 4, none⟩] := vR rfl
@[push_cast] theorem bsl35_1_Codes7L {K : Value → World → Prop} {w : World} (x00 x01 : Value) : vBuildSlice Try.prog 35 1 #[(0, (.agg #[x00, x01]))] K w = K (.slice (some ⟨w.heap.size, 0, none⟩) 1 1) (w.alloc (.cells #[x00, x01] 63)) :=
  vBuildSlice_ok Try.underlying35 ti63 (by kernel_rfl) (by decide)
@[push_cast] theorem bld42_0_1_3_Codes7L {K : Value → World → Prop} {w : World} (x0o : Option Addr) (x0n x0c : Nat) (x1 : Int) (x3 : Int) : vBuild Try.prog 42 #[(0, (.slice x0o x0n x0c)), (1, (.int .i64 x1)), (3, (.int .i64 x3))] K w = K (.agg #[(.slice x0o x0n x0c), (.int .i64 x1), (.int .i64 0), (.int .i64 x3), (.slice none 0 0), (.int .i64 0), (.string ⟨#[]⟩), (.string ⟨#[]⟩), (.slice none 0 0), (.slice none 0 0), (.int .i64 0), (.int .i64 0)]) w :=
  vBuild_ok (by kernel_rfl)
@[push_cast] theorem bld63__Codes7L {K : Value → World → Prop} {w : World}  : vBuild Try.prog 63 #[] K w = K (.agg #[(.int .i64 0), (.string ⟨#[]⟩)]) w :=
  vBuild_ok (by kernel_rfl)
end Go.Proofs.Ytnofalhkapmcnaa
end
section
set_option linter.unusedSimpArgs false
namespace Go.Proofs.Ytnofalhkapmcnaa
open Go.Vc Go.Key Go.Bkt
set_option maxRecDepth 100000
structure Ft26 (m : MD) (q : QD) : Prop where
  a : f20 m = true
  b : f23 m.dl m.ml q = true
  r : RgOk m
  c : ckQ m.dl m.ml q = 0
theorem ckQ_ok {d m : List ByteArray} {q : QD} (h : ckQ d m q = 0) : shOk q = true ∧ nsOk d m q = true ∧ tpOk q = true := by
  unfold ckQ at h
  cases h1 : shOk q with
  | false => rw [h1, if_pos rfl] at h; cases h
  | true =>
    rw [h1, if_neg (by simp)] at h
    cases h2 : nsOk d m q with
    | false => rw [h2, if_pos rfl] at h; cases h
    | true =>
      rw [h2, if_neg (by simp)] at h
      cases h3 : tpOk q with
      | false => rw [h3, if_pos rfl] at h; cases h
      | true => exact ⟨rfl, rfl, rfl⟩
theorem f23_in {d m : List ByteArray} {q : QD} (h : f23 d m q = true) : q.wh.cnt ≤ 300 ∧ q.bl.length ≤ 20 ∧ d.length ≤ 20 := by
  unfold f23 at h
  simp only [Bool.and_eq_true, decide_eq_true_eq] at h
  obtain ⟨⟨⟨⟨⟨⟨⟨h1, h2⟩, h3⟩, h4⟩, h5⟩, h6⟩, h7⟩, h8⟩ := h
  have := FT.cnt_prt q.wh 300 h6
  exact ⟨by omega, h3.1, h1.1⟩
theorem Ft26.qin {m : MD} {q : QD} (h : Ft26 m q) : QIn m.dl q ∧ 0 ≤ q.fr ∧ q.fr < q.to ∧ q.to ≤ 1099511627776 := by
  obtain ⟨h1, h2, h3⟩ := f23_in h.b
  obtain ⟨_, _, hc⟩ := ckQ_ok h.c
  unfold tpOk at hc
  simp only [Bool.and_eq_true, decide_eq_true_eq] at hc
  obtain ⟨⟨⟨_, _⟩, he⟩, hn⟩ := hc
  refine ⟨⟨by omega, by omega, by omega, ?_⟩, ?_⟩
  · unfold evOk at he
    simp only [Bool.or_eq_true, decide_eq_true_eq] at he
    rcases he with he | he
    · exact .inl he
    · right
      unfold grOk at he
      unfold Rt
      simp only [Bool.and_eq_true, decide_eq_true_eq] at he
      omega
  · unfold tyNum at hn
    omega
set_option maxHeartbeats 1000000 in
theorem fits26_c (m : MD) (q : QD) (w : World) (hm : m.Ok w) (hq : q.Ok w) (hd : m.dl.length ≤ 2000000) (hml : m.ml.length ≤ 2000000) : FnC Try.prog 10 #[.agg (mdC m).toArray, .agg (qdC q).toArray] w fun v w' => (∃ b : Bool, v = .bool b ∧ (b = true → Ft26 m q)) ∧ Later w w' := by
  have fail : ∀ (w' : World), Later w w' → (∃ b : Bool, Value.bool false = .bool b ∧ (b = true → Ft26 m q)) ∧ Later w w' := fun w' hl => ⟨⟨false, rfl, fun h => by cases h⟩, hl⟩
  refine enter10 _ _ ?_
  unfold B10
  have eca : (Value.agg (mdC m).toArray).cells = (mdC m).toArray := rfl
  have ecb : (Value.agg (qdC q).toArray).cells = (qdC q).toArray := rfl
  obtain ⟨k0, hk0⟩ : ∃ k0, k0 = w.heap.size := ⟨_, rfl⟩
  have la := later_alloc w (.cells (mdC m).toArray 34)
  have Ba := Blk.new w (mdC m).toArray 34
  have sa : (w.alloc (.cells (mdC m).toArray 34)).heap.size = k0 + 1 := by rw [World.size_alloc, hk0]
  rw [← hk0] at Ba
  generalize hwa : w.alloc (.cells (mdC m).toArray 34) = wa at *
  have lb := later_alloc wa (.cells (qdC q).toArray 42)
  have Bb := Blk.new wa (qdC q).toArray 42
  rw [sa] at Bb
  generalize hwb : wa.alloc (.cells (qdC q).toArray 42) = w1 at *
  repeat' (first | (simp (disch := omega) only [push_cast, ↓reduceIte, zA, zG, zB, zH, zI, zC, zJ, zK, zL, zD, zE, zF, zM, zN, zO, zP, zQ, reduceCtorEq, not_true_eq_false, not_false_eq_true, eca, ecb, hwa, sa, hwb, ← hk0]) | (first | refine iE ?_ ?_ | refine iD ?_ ?_ | refine iQ ?_ ?_ | refine iV ?_ ?_) <;> intro _ | refine And.intro (by omega) ?_ | fail)
  have l01 := la.trans lb
  have FF : ∀ w', Later w1 w' → cellsAt w' ⟨k0, 0, none⟩ 12 = some (mdC m) ∧ cellsAt w' ⟨k0 + 1, 0, none⟩ 12 = some (qdC q) ∧ cellsAt w' ⟨k0, 0, none⟩ 2 = some [m.dv, m.mv] := by
    intro w' hl
    have B := mdLater Ba (lb.trans hl)
    refine ⟨Blk.cellsAt (l := mdC m) B, Blk.cellsAt (l := qdC q) (qdLater Bb hl), ?_⟩
    refine cellsAt_of 2 _ _ rfl fun i x hx => ?_
    rw [addr_add_eq]
    match i, hx with
    | 0, hx => cases hx; exact B.cell 0
    | 1, hx => cases hx; exact B.cell 1
    | n + 2, hx => exact absurd hx (by simp)
  have hsc : ∀ w', Later w w' → ScIs w' m.dv m.mv m.dl m.ml := fun w' hl => ⟨Sl.later hm.dv hl, Sl.later hm.mv hl, bz_le hm.dl, bz_le hm.ml⟩
  clear hwa hwb sa la lb Ba Bb
  obtain ⟨f1, f2, f3⟩ := FF w1 (Later.refl _)
  repeat' (first | (simp (disch := omega) only [push_cast, ↓reduceIte, zA, zG, zB, zH, zI, zC, zJ, zK, zL, zD, zE, zF, zM, zN, zO, zP, zQ, reduceCtorEq, not_true_eq_false, not_false_eq_true, f1]) | (first | refine iE ?_ ?_ | refine iD ?_ ?_ | refine iQ ?_ ?_ | refine iV ?_ ?_) <;> intro _ | refine And.intro (by omega) ?_ | fail)
  refine (fits20_c m w1 (hm.later l01)).mono ?_
  rintro _ w2 ⟨rfl, l2⟩
  have l02 := l01.trans l2
  obtain ⟨f1, f2, f3⟩ := FF w2 l2
  repeat' (first | (simp (disch := omega) only [push_cast, ↓reduceIte, zA, zG, zB, zH, zI, zC, zJ, zK, zL, zD, zE, zF, zM, zN, zO, zP, zQ, reduceCtorEq, not_true_eq_false, not_false_eq_true, f2, f3, addr_add_eq, Nat.zero_add]) | (first | refine iE ?_ ?_ | refine iD ?_ ?_ | refine iQ ?_ ?_ | refine iV ?_ ?_) <;> intro _ | refine And.intro (by omega) ?_ | fail)
  refine (fits23_c m.dv m.mv m.dl m.ml q w2 (hsc w2 l02) (hq.later l02)).mono ?_
  rintro _ w3 ⟨rfl, l3⟩
  have l03 := l02.trans l3
  obtain ⟨f1, f2, f3⟩ := FF w3 (l2.trans l3)
  repeat' (first | (simp (disch := omega) only [push_cast, ↓reduceIte, zA, zG, zB, zH, zI, zC, zJ, zK, zL, zD, zE, zF, zM, zN, zO, zP, zQ, reduceCtorEq, not_true_eq_false, not_false_eq_true, f1]) | (first | refine iE ?_ ?_ | refine iD ?_ ?_ | refine iQ ?_ ?_ | refine iV ?_ ?_) <;> intro _ | refine And.intro (by omega) ?_ | fail)
  refine (right20_c m w3 (hm.later l03) hd hml).mono ?_
  rintro _ w4 ⟨⟨b, rfl, hb⟩, l4⟩
  have l04 := l03.trans l4
  cases hA : f20 m with
  | false =>
    repeat' (first | (simp (disch := omega) only [push_cast, ↓reduceIte, zA, zG, zB, zH, zI, zC, zJ, zK, zL, zD, zE, zF, zM, zN, zO, zP, zQ, reduceCtorEq, not_true_eq_false, not_false_eq_true]) | (first | refine iE ?_ ?_ | refine iD ?_ ?_ | refine iQ ?_ ?_ | refine iV ?_ ?_) <;> intro _ | refine And.intro (by omega) ?_ | refine drawn_q ?_ | fail)
    exact fail _ l04
  | true =>
  cases hB : f23 m.dl m.ml q with
  | false =>
    repeat' (first | (simp (disch := omega) only [push_cast, ↓reduceIte, zA, zG, zB, zH, zI, zC, zJ, zK, zL, zD, zE, zF, zM, zN, zO, zP, zQ, reduceCtorEq, not_true_eq_false, not_false_eq_true]) | (first | refine iE ?_ ?_ | refine iD ?_ ?_ | refine iQ ?_ ?_ | refine iV ?_ ?_) <;> intro _ | refine And.intro (by omega) ?_ | refine drawn_q ?_ | fail)
    exact fail _ l04
  | true =>
  cases b with
  | false =>
    repeat' (first | (simp (disch := omega) only [push_cast, ↓reduceIte, zA, zG, zB, zH, zI, zC, zJ, zK, zL, zD, zE, zF, zM, zN, zO, zP, zQ, reduceCtorEq, not_true_eq_false, not_false_eq_true]) | (first | refine iE ?_ ?_ | refine iD ?_ ?_ | refine iQ ?_ ?_ | refine iV ?_ ?_) <;> intro _ | refine And.intro (by omega) ?_ | refine drawn_q ?_ | fail)
    exact fail _ l04
  | true =>
  obtain ⟨h1, h2, h3⟩ := f23_in hB
  obtain ⟨f1, f2, f3⟩ := FF w4 (l2.trans (l3.trans l4))
  repeat' (first | (simp (disch := omega) only [push_cast, ↓reduceIte, zA, zG, zB, zH, zI, zC, zJ, zK, zL, zD, zE, zF, zM, zN, zO, zP, zQ, reduceCtorEq, not_true_eq_false, not_false_eq_true, f2, f3, addr_add_eq, Nat.zero_add]) | (first | refine iE ?_ ?_ | refine iD ?_ ?_ | refine iQ ?_ ?_ | refine iV ?_ ?_) <;> intro _ | refine And.intro (by omega) ?_ | fail)
  refine (check_c m.dv m.mv m.dl m.ml q w4 (hsc w4 l04) (hq.later l04) (by omega) (by omega)).mono ?_
  rintro _ w5 ⟨rfl, l5⟩
  have l05 := l04.trans l5
  by_cases hC : ckQ m.dl m.ml q = 0
  · have d := decide_eq_true hC
    repeat' (first | (simp (disch := omega) only [push_cast, ↓reduceIte, zA, zG, zB, zH, zI, zC, zJ, zK, zL, zD, zE, zF, zM, zN, zO, zP, zQ, reduceCtorEq, not_true_eq_false, not_false_eq_true, d]) | (first | refine iE ?_ ?_ | refine iD ?_ ?_ | refine iQ ?_ ?_ | refine iV ?_ ?_) <;> intro _ | refine And.intro (by omega) ?_ | refine drawn_q ?_ | fail)
    all_goals exact ⟨⟨true, rfl, fun _ => ⟨hA, hB, hb rfl, hC⟩⟩, l05⟩
  · have d := decide_eq_false hC
    repeat' (first | (simp (disch := omega) only [push_cast, ↓reduceIte, zA, zG, zB, zH, zI, zC, zJ, zK, zL, zD, zE, zF, zM, zN, zO, zP, zQ, reduceCtorEq, not_true_eq_false, not_false_eq_true, d]) | (first | refine iE ?_ ?_ | refine iD ?_ ?_ | refine iQ ?_ ?_ | refine iV ?_ ?_) <;> intro _ | refine And.intro (by omega) ?_ | refine drawn_q ?_ | fail)
    all_goals exact fail _ l05
end Go.Proofs.Ytnofalhkapmcnaa
end
section
set_option linter.unusedSimpArgs false
namespace Go.Proofs.Ytnofalhkapmcnaa
open Go.Vc Go.Key Go.Bkt
set_option maxRecDepth 100000
def tA : ByteArray := ⟨#[97]⟩
def tB : ByteArray := ⟨#[98]⟩
theorem iq (n : Int) (h : -1000 ≤ n ∧ n ≤ 1000 := by decide) : I64 n := by unfold I64; omega
theorem elq : ∀ n ∈ ([40, 0] : List Int), I64 n := by
  intro n hn
  simp only [List.mem_cons, List.not_mem_nil, or_false] at hn
  rcases hn with rfl | rfl
  · exact iq 40
  · exact iq 0
/-- The manifest of two tiers, and a projection. -/
structure StoreD (w : World) (m : MD) : Prop where
  ok : m.Ok w
  dl : m.dl = [tA, tB]
  ml : m.ml = []
  tl : ∃ d1 d2, m.p.tl = [⟨0, 1, d1, [tA, tB]⟩, ⟨20, 10, d2, [tA]⟩]
  pl : ∃ d3, m.p.pl = [⟨0, 5, d3, []⟩]
  el : m.el = [40, 0]
  fl : m.fl = [⟨⟨#[115]⟩, 0, -1, 9⟩, ⟨⟨#[116]⟩, 0, 0, 4⟩]
set_option maxHeartbeats 2000000 in
theorem store_c (w : World) : FnC Try.prog 34 #[] w fun v w' => (∃ m : MD, v = .agg (mdC m).toArray ∧ StoreD w' m) ∧ Later w w' := by
  refine enter34 ?_
  unfold B34
  repeat' (first | (simp (disch := omega) only [push_cast, ↓reduceIte, zA, zG, zB, zH, zI, zC, zJ, zK, zL, zD, zE, zF, zM, zN, zO, zP, zQ, reduceCtorEq, not_true_eq_false, not_false_eq_true]) | (first | refine iE ?_ ?_ | refine iD ?_ ?_ | refine iQ ?_ ?_ | refine iV ?_ ?_) <;> intro _ | refine And.intro (by omega) ?_ | fail)
  refine vStore_new rfl rfl (by intro u hu; simp at hu; rcases hu with rfl | rfl <;> rfl) ?_
  have la := later_alloc w (.cells #[.slice none 0 0, .slice none 0 0, .slice none 0 0, .slice none 0 0, .int .i64 0, .int .i64 0, .slice none 0 0, .int .i64 0, .slice none 0 0, .slice none 0 0, .string ⟨#[]⟩, .int .i64 0] 34)
  have Ba := Blk.new w #[.slice none 0 0, .slice none 0 0, .slice none 0 0, .slice none 0 0, .int .i64 0, .int .i64 0, .slice none 0 0, .int .i64 0, .slice none 0 0, .slice none 0 0, .string ⟨#[]⟩, .int .i64 0] 34
  have sa : (w.alloc (.cells #[.slice none 0 0, .slice none 0 0, .slice none 0 0, .slice none 0 0, .int .i64 0, .int .i64 0, .slice none 0 0, .int .i64 0, .slice none 0 0, .slice none 0 0, .string ⟨#[]⟩, .int .i64 0] 34)).heap.size = w.heap.size + 1 := World.size_alloc _ _
  generalize w.alloc (.cells #[.slice none 0 0, .slice none 0 0, .slice none 0 0, .slice none 0 0, .int .i64 0, .int .i64 0, .slice none 0 0, .int .i64 0, .slice none 0 0, .slice none 0 0, .string ⟨#[]⟩, .int .i64 0] 34) = wa at *
  generalize hk0 : w.heap.size = k0 at *
  have lb := later_alloc wa (.cells #[.string ⟨#[97]⟩, .string ⟨#[98]⟩] 9)
  have zlb := lb.size
  have Sb : StS (wa.alloc (.cells #[.string ⟨#[97]⟩, .string ⟨#[98]⟩] 9)) (.slice (some ⟨wa.heap.size, 0, none⟩) 2 2) [tA, tB] := Sl.lit wa [.string ⟨#[97]⟩, .string ⟨#[98]⟩] 9 (by unfold maxLen; simp)
  generalize wa.alloc (.cells #[.string ⟨#[97]⟩, .string ⟨#[98]⟩] 9) = wb at *
  have gkb : k0 < wa.heap.size := by omega
  generalize wa.heap.size = kb at *
  have lc := later_alloc wb (.cells #[.slice (some ⟨kb, 0, none⟩) 2 2, .slice none 0 0] 24)
  have zlc := lc.size
  have Bc := Blk.new wb #[.slice (some ⟨kb, 0, none⟩) 2 2, .slice none 0 0] 24
  generalize wb.alloc (.cells #[.slice (some ⟨kb, 0, none⟩) 2 2, .slice none 0 0] 24) = wc at *
  have gkc : k0 < wb.heap.size := by omega
  generalize wb.heap.size = kc at *
  have ld := later_alloc wc (.cells #[.string ⟨#[97]⟩, .string ⟨#[98]⟩] 9)
  have zld := ld.size
  have Sd : StS (wc.alloc (.cells #[.string ⟨#[97]⟩, .string ⟨#[98]⟩] 9)) (.slice (some ⟨wc.heap.size, 0, none⟩) 2 2) [tA, tB] := Sl.lit wc [.string ⟨#[97]⟩, .string ⟨#[98]⟩] 9 (by unfold maxLen; simp)
  repeat' (first | (simp (disch := omega) only [push_cast, ↓reduceIte, zA, zG, zB, zH, zI, zC, zJ, zK, zL, zD, zE, zF, zM, zN, zO, zP, zQ, reduceCtorEq, not_true_eq_false, not_false_eq_true]) | (first | refine iE ?_ ?_ | refine iD ?_ ?_ | refine iQ ?_ ?_ | refine iV ?_ ?_) <;> intro _ | refine And.intro (by omega) ?_ | fail)
  generalize wc.alloc (.cells #[.string ⟨#[97]⟩, .string ⟨#[98]⟩] 9) = wd at *
  have gkd : k0 < wc.heap.size := by omega
  generalize wc.heap.size = kd at *
  have le := later_alloc wd (.cells #[.string ⟨#[97]⟩] 9)
  have zle := le.size
  have Se : StS (wd.alloc (.cells #[.string ⟨#[97]⟩] 9)) (.slice (some ⟨wd.heap.size, 0, none⟩) 1 1) [tA] := Sl.lit wd [.string ⟨#[97]⟩] 9 (by unfold maxLen; simp)
  generalize wd.alloc (.cells #[.string ⟨#[97]⟩] 9) = we at *
  have gke : k0 < wd.heap.size := by omega
  generalize wd.heap.size = ke at *
  refine vStore_new rfl rfl (by intro u hu; simp at hu; rcases hu with rfl | rfl | rfl <;> rfl) ?_
  have lf := later_alloc we (.cells #[.int .i64 0, .int .i64 1, .slice (some ⟨kd, 0, none⟩) 2 2, .int .i64 20, .int .i64 10, .slice (some ⟨ke, 0, none⟩) 1 1] 60)
  have zlf := lf.size
  have Sf : RecS cdC 3 (we.alloc (.cells #[.int .i64 0, .int .i64 1, .slice (some ⟨kd, 0, none⟩) 2 2, .int .i64 20, .int .i64 10, .slice (some ⟨ke, 0, none⟩) 1 1] 60)) (.slice (some ⟨we.heap.size, 0, none⟩) 2 2) [⟨0, 1, .slice (some ⟨kd, 0, none⟩) 2 2, [tA, tB]⟩, ⟨20, 10, .slice (some ⟨ke, 0, none⟩) 1 1, [tA]⟩] :=
    SlN.lit we [.int .i64 0, .int .i64 1, .slice (some ⟨kd, 0, none⟩) 2 2, .int .i64 20, .int .i64 10, .slice (some ⟨ke, 0, none⟩) 1 1] _ 3 2 rfl (by unfold maxLen; omega)
  generalize we.alloc (.cells #[.int .i64 0, .int .i64 1, .slice (some ⟨kd, 0, none⟩) 2 2, .int .i64 20, .int .i64 10, .slice (some ⟨ke, 0, none⟩) 1 1] 60) = wf at *
  have gkf : k0 < we.heap.size := by omega
  generalize we.heap.size = kf at *
  have lg := later_alloc wf (.cells #[.int .i64 0, .int .i64 5, .slice none 0 0] 51)
  have zlg := lg.size
  have Sg : RecS cdC 3 (wf.alloc (.cells #[.int .i64 0, .int .i64 5, .slice none 0 0] 51)) (.slice (some ⟨wf.heap.size, 0, none⟩) 1 1) [⟨0, 5, .slice none 0 0, []⟩] :=
    SlN.lit wf [.int .i64 0, .int .i64 5, .slice none 0 0] _ 3 1 rfl (by unfold maxLen; omega)
  generalize wf.alloc (.cells #[.int .i64 0, .int .i64 5, .slice none 0 0] 51) = wg at *
  have gkg : k0 < wf.heap.size := by omega
  generalize wf.heap.size = kg at *
  have lh := later_alloc wg (.cells #[.slice (some ⟨kf, 0, none⟩) 2 2, .slice (some ⟨kg, 0, none⟩) 1 1, .int .i64 100] 28)
  have zlh := lh.size
  have Bh := Blk.new wg #[.slice (some ⟨kf, 0, none⟩) 2 2, .slice (some ⟨kg, 0, none⟩) 1 1, .int .i64 100] 28
  generalize wg.alloc (.cells #[.slice (some ⟨kf, 0, none⟩) 2 2, .slice (some ⟨kg, 0, none⟩) 1 1, .int .i64 100] 28) = wh at *
  have gkh : k0 < wg.heap.size := by omega
  generalize wg.heap.size = kh at *
  have lch := ld.trans (le.trans (lf.trans (lg.trans lh)))
  have fc : cellsAt wh ⟨kc, 0, none⟩ 2 = some [.slice (some ⟨kb, 0, none⟩) 2 2, .slice none 0 0] := Blk.cellsAt (l := [.slice (some ⟨kb, 0, none⟩) 2 2, .slice none 0 0]) (Bc.chg (Chg.of_later (ks := []) lch) (by simp))
  have fh : cellsAt wh ⟨kh, 0, none⟩ 3 = some [.slice (some ⟨kf, 0, none⟩) 2 2, .slice (some ⟨kg, 0, none⟩) 1 1, .int .i64 100] := Blk.cellsAt (l := [.slice (some ⟨kf, 0, none⟩) 2 2, .slice (some ⟨kg, 0, none⟩) 1 1, .int .i64 100]) Bh
  repeat' (first | (simp (disch := omega) only [push_cast, ↓reduceIte, zA, zG, zB, zH, zI, zC, zJ, zK, zL, zD, zE, zF, zM, zN, zO, zP, zQ, reduceCtorEq, not_true_eq_false, not_false_eq_true, fc, fh]) | (first | refine iE ?_ ?_ | refine iD ?_ ?_ | refine iQ ?_ ?_ | refine iV ?_ ?_) <;> intro _ | refine And.intro (by omega) ?_ | fail)
  have li := later_alloc wh (.cells #[.int .i64 40, .int .i64 0] 3)
  have zli := li.size
  have Si : Sl (wh.alloc (.cells #[.int .i64 40, .int .i64 0] 3)) (.slice (some ⟨wh.heap.size, 0, none⟩) 2 2) (([40, 0] : List Int).map (Value.int .i64)) := Sl.lit wh [.int .i64 40, .int .i64 0] 3 (by unfold maxLen; simp)
  generalize wh.alloc (.cells #[.int .i64 40, .int .i64 0] 3) = wi at *
  have gki : k0 < wh.heap.size := by omega
  generalize wh.heap.size = ki at *
  have lj := later_alloc wi (.cells #[.string ⟨#[115]⟩, .int .i64 0, .int .i64 (-1), .int .i64 9, .string ⟨#[116]⟩, .int .i64 0, .int .i64 0, .int .i64 4] 57)
  have zlj := lj.size
  have Sj : RecS sdC 4 (wi.alloc (.cells #[.string ⟨#[115]⟩, .int .i64 0, .int .i64 (-1), .int .i64 9, .string ⟨#[116]⟩, .int .i64 0, .int .i64 0, .int .i64 4] 57)) (.slice (some ⟨wi.heap.size, 0, none⟩) 2 2) [⟨⟨#[115]⟩, 0, -1, 9⟩, ⟨⟨#[116]⟩, 0, 0, 4⟩] :=
    SlN.lit wi [.string ⟨#[115]⟩, .int .i64 0, .int .i64 (-1), .int .i64 9, .string ⟨#[116]⟩, .int .i64 0, .int .i64 0, .int .i64 4] _ 4 2 rfl (by unfold maxLen; omega)
  generalize wi.alloc (.cells #[.string ⟨#[115]⟩, .int .i64 0, .int .i64 (-1), .int .i64 9, .string ⟨#[116]⟩, .int .i64 0, .int .i64 0, .int .i64 4] 57) = wj at *
  have gkj : k0 < wi.heap.size := by omega
  generalize wi.heap.size = kj at *
  have laj := lb.trans (lc.trans (lch.trans (li.trans lj)))
  have Bj := Ba.chg (Chg.of_later (ks := []) laj) (by simp)
  obtain ⟨m, hm⟩ : ∃ m : MD, m = ⟨.slice (some ⟨kb, 0, none⟩) 2 2, [tA, tB], .slice none 0 0, [], ⟨.slice (some ⟨kf, 0, none⟩) 2 2, [⟨0, 1, .slice (some ⟨kd, 0, none⟩) 2 2, [tA, tB]⟩, ⟨20, 10, .slice (some ⟨ke, 0, none⟩) 1 1, [tA]⟩], .slice (some ⟨kg, 0, none⟩) 1 1, [⟨0, 5, .slice none 0 0, []⟩], 100⟩, 60, .slice (some ⟨ki, 0, none⟩) 2 2, [40, 0], 0, .slice none 0 0, [], .slice (some ⟨kj, 0, none⟩) 2 2, [⟨⟨#[115]⟩, 0, -1, 9⟩, ⟨⟨#[116]⟩, 0, 0, 4⟩], ⟨#[106]⟩, 0⟩ := ⟨_, rfl⟩
  have hmc : mdC m = [.slice (some ⟨kb, 0, none⟩) 2 2, .slice none 0 0, .slice (some ⟨kf, 0, none⟩) 2 2, .slice (some ⟨kg, 0, none⟩) 1 1, .int .i64 100, .int .i64 60, .slice (some ⟨ki, 0, none⟩) 2 2, .int .i64 0, .slice none 0 0, .slice (some ⟨kj, 0, none⟩) 2 2, .string ⟨#[106]⟩, .int .i64 0] := by rw [hm]; rfl
  repeat' (first | (simp (disch := omega) only [push_cast, ↓reduceIte, zA, zG, zB, zH, zI, zC, zJ, zK, zL, zD, zE, zF, zM, zN, zO, zP, zQ, reduceCtorEq, not_true_eq_false, not_false_eq_true]) | (first | refine iE ?_ ?_ | refine iD ?_ ?_ | refine iQ ?_ ?_ | refine iV ?_ ?_) <;> intro _ | refine And.intro (by omega) ?_ | fail)
  refine vStore_blk (l := [.slice none 0 0, .slice none 0 0, .slice none 0 0, .slice none 0 0, .int .i64 0, .int .i64 0, .slice none 0 0, .int .i64 0, .slice none 0 0, .slice none 0 0, .string ⟨#[]⟩, .int .i64 0]) (xs := [.slice (some ⟨kb, 0, none⟩) 2 2, .slice none 0 0, .slice (some ⟨kf, 0, none⟩) 2 2, .slice (some ⟨kg, 0, none⟩) 1 1, .int .i64 100, .int .i64 60, .slice (some ⟨ki, 0, none⟩) 2 2, .int .i64 0, .slice none 0 0, .slice (some ⟨kj, 0, none⟩) 2 2, .string ⟨#[106]⟩, .int .i64 0]) Bj rfl rfl (by intro u hu; simp at hu; rcases hu with rfl | rfl | rfl | rfl | rfl | rfl | rfl | rfl | rfl | rfl | rfl | rfl <;> rfl) ?_
  intro wk Bk ck
  rw [← hmc] at Bk
  have lk : Later w wk := Chg.later (la.trans laj) ck (by intro j hj; rw [List.mem_singleton.1 hj, hk0]; omega)
  repeat' (first | (simp (disch := omega) only [push_cast, ↓reduceIte, zA, zG, zB, zH, zI, zC, zJ, zK, zL, zD, zE, zF, zM, zN, zO, zP, zQ, reduceCtorEq, not_true_eq_false, not_false_eq_true]) | (first | refine iE ?_ ?_ | refine iD ?_ ?_ | refine iQ ?_ ?_ | refine iV ?_ ?_) <;> intro _ | refine And.intro (by omega) ?_ | fail)
  refine resK_cells (s := 12) (by simp (disch := omega) only [push_cast, ↓reduceIte, zA, zG, zB, zH, zI, zC, zJ, zK, zL, zD, zE, zF, zM, zN, zO, zP, zQ, reduceCtorEq, not_true_eq_false, not_false_eq_true]) (by rw [Try.underlying34]; exact sz34) (Blk.cellsAt (l := mdC m) Bk) ?_
  -- what was made before the last store stays
  have cs : ∀ {n : Nat} {v : Value} {xs : List Value} {s : Nat} {k : Nat}, SlN wj s v n xs → inB k v → k ≠ k0 → SlN wk s v n xs := fun h hi hn => SlN.chg h ck (by simpa using hn) hi
  have nb : kb ≠ k0 := by omega
  have nd : kd ≠ k0 := by omega
  have ne' : ke ≠ k0 := by omega
  have nf : kf ≠ k0 := by omega
  have ng : kg ≠ k0 := by omega
  have ni : ki ≠ k0 := by omega
  have nj : kj ≠ k0 := by omega
  have hB : StS wk (.slice (some ⟨kb, 0, none⟩) 2 2) [tA, tB] := cs (Sl.later Sb (lc.trans (lch.trans (li.trans lj)))) (by simp [inB]) nb
  have hD : StS wk (.slice (some ⟨kd, 0, none⟩) 2 2) [tA, tB] := cs (Sl.later Sd (le.trans (lf.trans (lg.trans (lh.trans (li.trans lj)))))) (by simp [inB]) nd
  have hE : StS wk (.slice (some ⟨ke, 0, none⟩) 1 1) [tA] := cs (Sl.later Se (lf.trans (lg.trans (lh.trans (li.trans lj))))) (by simp [inB]) ne'
  have hF : RecS cdC 3 wk (.slice (some ⟨kf, 0, none⟩) 2 2) [⟨0, 1, .slice (some ⟨kd, 0, none⟩) 2 2, [tA, tB]⟩, ⟨20, 10, .slice (some ⟨ke, 0, none⟩) 1 1, [tA]⟩] := cs (RecS.later Sf (lg.trans (lh.trans (li.trans lj)))) (by simp [inB]) nf
  have hG : RecS cdC 3 wk (.slice (some ⟨kg, 0, none⟩) 1 1) [⟨0, 5, .slice none 0 0, []⟩] := cs (RecS.later Sg (lh.trans (li.trans lj))) (by simp [inB]) ng
  have hI : Sl wk (.slice (some ⟨ki, 0, none⟩) 2 2) (([40, 0] : List Int).map (Value.int .i64)) := cs (Sl.later Si lj) (by simp [inB]) ni
  have hJ : RecS sdC 4 wk (.slice (some ⟨kj, 0, none⟩) 2 2) [⟨⟨#[115]⟩, 0, -1, 9⟩, ⟨⟨#[116]⟩, 0, 0, 4⟩] := cs Sj (by simp [inB]) nj
  have small : ∀ s ∈ [tA, tB], s.size ≤ Bz := by intro s hs; simp only [List.mem_cons, List.not_mem_nil, or_false] at hs; rcases hs with rfl | rfl <;> decide
  repeat' (first | (simp (disch := omega) only [push_cast, ↓reduceIte, zA, zG, zB, zH, zI, zC, zJ, zK, zL, zD, zE, zF, zM, zN, zO, zP, zQ, reduceCtorEq, not_true_eq_false, not_false_eq_true]) | (first | refine iE ?_ ?_ | refine iD ?_ ?_ | refine iQ ?_ ?_ | refine iV ?_ ?_) <;> intro _ | refine And.intro (by omega) ?_ | refine drawn_q ?_ | fail)
  refine ⟨⟨m, rfl, ?_⟩, lk⟩
  subst hm
  refine ⟨⟨hB, small, Sl.nil wk, by simp, ⟨hF, ?_, hG, ?_, iq 100⟩, iq 60, hI, elq, iq 0, Sl.nil wk, by simp, hJ, ?_, (show (⟨#[106]⟩ : ByteArray).size ≤ Bz by decide), iq 0⟩, rfl, rfl, ⟨_, _, rfl⟩, ⟨_, rfl⟩, rfl, rfl⟩
  · intro c hc
    simp only [List.mem_cons, List.not_mem_nil, or_false] at hc
    rcases hc with rfl | rfl
    · exact ⟨iq 0, iq 1, hD, small⟩
    · exact ⟨iq 20, iq 10, hE, fun s hs => small s (by rw [List.mem_singleton.1 hs]; simp)⟩
  · intro c hc
    rw [List.mem_singleton.1 hc]
    exact ⟨iq 0, iq 5, Sl.nil wk, by simp⟩
  · intro f hf
    simp only [List.mem_cons, List.not_mem_nil, or_false] at hf
    rcases hf with rfl | rfl
    · exact ⟨(show (⟨#[115]⟩ : ByteArray).size ≤ Bz by decide), iq 0, iq (-1), iq 9⟩
    · exact ⟨(show (⟨#[116]⟩ : ByteArray).size ≤ Bz by decide), iq 0, iq 0, iq 4⟩
end Go.Proofs.Ytnofalhkapmcnaa
end
