/- Is a plan's cuboid eligible: the program's, the document's. -/
import Derived.Test.YtnofalhkapmcnaaPartK
set_option linter.all false
open Nat renaming reduceEqDiff → zA, reducePow → zB, reduceMul → zC, reduceAdd → zD, reduceSub → zE, reduceLeDiff → zF
open Int renaming reduceToNat → zG, reducePow → zH, reduceNeg → zI, reduceMul → zJ, reduceAdd → zK, reduceSub → zL, reduceLT → zM, reduceLE → zN, reduceEq → zO, reduceMod → zP, reduceDiv → zQ
section
set_option linter.unusedSimpArgs false
namespace Go.Vc
open Go.Key
end Go.Vc
namespace Go.Proofs.Ytnofalhkapmcnaa
open Go.Vc Go.Key Go.Bkt
set_option maxRecDepth 100000
def elB (d : List ByteArray) (p : PD) (q : QD) (x : PN) : Bool := (usedL d q).all (fun s => inL s (cub p x).dl) && alB x.fr (cub p x).g && alB x.to (cub p x).g && decide (q.ev % (cub p x).g = 0)
/-- What is asked of a query, for that. -/
structure QIn (d : List ByteArray) (q : QD) : Prop where
  c : q.wh.cnt ≤ 1000000
  b : q.bl.length ≤ 1000
  d : d.length ≤ 1000
  e : q.ev = 0 ∨ Rt q.ev
theorem used_len (d : List ByteArray) (q : QD) : (usedL d q).length ≤ d.length := List.length_filter_le _ _
theorem el1_c (x : ByteArray) (k : Nat) (v : Value) (l : List ByteArray) (w : World) (hk : w.cell? ⟨k, 2, none⟩ = some v) (h : StS w v l) : FnC Try.prog 37 #[.string x, pt k] w fun r w' => r = .bool (!inL x l) ∧ w' = w := by
  refine enter37 _ _ ?_
  unfold B37
  repeat' (first | (simp (disch := omega) only [push_cast, ↓reduceIte, zA, zG, zB, zH, zI, zC, zJ, zK, zL, zD, zE, zF, zM, zN, zO, zP, zQ, reduceCtorEq, not_true_eq_false, not_false_eq_true, hk, addr_add_eq, Nat.zero_add]) | (first | refine iE ?_ ?_ | refine iD ?_ ?_ | refine iQ ?_ ?_ | refine iV ?_ ?_) <;> intro _ | refine And.intro (by omega) ?_ | refine drawn_q ?_ | fail)
  refine (scontains_c v l x w h).mono ?_
  rintro _ w0 ⟨rfl, h0⟩; obtain rfl := h0.symm
  repeat' (first | (simp (disch := omega) only [push_cast, ↓reduceIte, zA, zG, zB, zH, zI, zC, zJ, zK, zL, zD, zE, zF, zM, zN, zO, zP, zQ, reduceCtorEq, not_true_eq_false, not_false_eq_true]) | (first | refine iE ?_ ?_ | refine iD ?_ ?_ | refine iQ ?_ ?_ | refine iV ?_ ?_) <;> intro _ | refine And.intro (by omega) ?_ | refine drawn_q ?_ | fail)
theorem not_any {α : Type} (l : List α) (f : α → Bool) : l.any (fun x => !f x) = !l.all f := by
  induction l with
  | nil => rfl
  | cons a l ih => rw [List.any_cons, List.all_cons, ih]; cases f a <;> simp
theorem evB {ev g : Int} (h : ev = 0 ∨ Rt ev) (hg : Rt g) : (decide (ev = 0) || coB ev g) = decide (ev % g = 0) := by
  rcases h with h | h
  · subst h; simp
  · unfold coB
    by_cases h0 : ev = 0
    · subst h0; simp
    · rw [decide_eq_false h0, Bool.false_or]
      exact decide_eq_decide.2 ⟨fun h => h.2.2, fun h' => ⟨h, hg, h'⟩⟩
set_option maxHeartbeats 2000000 in
theorem eligible_c (dv mv : Value) (d m : List ByteArray) (p : PD) (q : QD) (x : PN) (w : World) (h : ScIs w dv mv d m) (hp : p.Ok w) (hq : q.Ok w) (hx : PnIn p x) (hi : QIn d q) (hf : I6 x.fr) (ht : I6 x.to) : FnC Try.prog 15 #[scV dv mv, .agg (pdC p).toArray, .agg (qdC q).toArray, .agg (pnC x).toArray] w fun v w' => v = .bool (elB d p q x) ∧ Later w w' := by
  have esc : scV dv mv = .agg #[dv, mv] := rfl
  rw [esc]
  refine enter15 _ _ _ _ ?_
  unfold B15
  have eca : (Value.agg (pdC p).toArray).cells = (pdC p).toArray := rfl
  have ecb : (Value.agg #[dv, mv]).cells = #[dv, mv] := rfl
  have ecc : (Value.agg (qdC q).toArray).cells = (qdC q).toArray := rfl
  have ecd : (Value.agg (pnC x).toArray).cells = (pnC x).toArray := rfl
  have s0 : ∃ k0, k0 = w.heap.size := ⟨_, rfl⟩
  obtain ⟨k0, hk0⟩ := s0
  have la := later_alloc w (.cells #[dv, mv] 24)
  have Ba := Blk.new w #[dv, mv] 24
  have sa : (w.alloc (.cells #[dv, mv] 24)).heap.size = k0 + 1 := by rw [World.size_alloc, hk0]
  rw [← hk0] at Ba
  generalize hwa : w.alloc (.cells #[dv, mv] 24) = wa at *
  have lb := later_alloc wa (.cells (pdC p).toArray 28)
  have Bb := Blk.new wa (pdC p).toArray 28
  have sb : (wa.alloc (.cells (pdC p).toArray 28)).heap.size = k0 + 2 := by rw [World.size_alloc, sa]
  rw [sa] at Bb
  generalize hwb : wa.alloc (.cells (pdC p).toArray 28) = wb at *
  have lc := later_alloc wb (.cells (qdC q).toArray 42)
  have Bc := Blk.new wb (qdC q).toArray 42
  have sc : (wb.alloc (.cells (qdC q).toArray 42)).heap.size = k0 + 3 := by rw [World.size_alloc, sb]
  rw [sb] at Bc
  generalize hwc : wb.alloc (.cells (qdC q).toArray 42) = wc at *
  have ld := later_alloc wc (.cells (pnC x).toArray 49)
  have Bd := Blk.new wc (pnC x).toArray 49
  rw [sc] at Bd
  generalize hwd : wc.alloc (.cells (pnC x).toArray 49) = w1 at *
  repeat' (first | (simp (disch := omega) only [push_cast, ↓reduceIte, zA, zG, zB, zH, zI, zC, zJ, zK, zL, zD, zE, zF, zM, zN, zO, zP, zQ, reduceCtorEq, not_true_eq_false, not_false_eq_true, eca, ecb, ecc, ecd, hwa, sa, hwb, sb, hwc, sc, hwd, ← hk0]) | (first | refine iE ?_ ?_ | refine iD ?_ ?_ | refine iQ ?_ ?_ | refine iV ?_ ?_) <;> intro _ | refine And.intro (by omega) ?_ | fail)
  have l01 : Later w w1 := ((la.trans lb).trans lc).trans ld
  have FF : ∀ w', Later w1 w' → cellsAt w' ⟨k0, 0, none⟩ 2 = some [dv, mv] ∧ cellsAt w' ⟨k0 + 1, 0, none⟩ 3 = some (pdC p) ∧ cellsAt w' ⟨k0 + 2, 0, none⟩ 12 = some (qdC q) ∧ cellsAt w' ⟨k0 + 3, 0, none⟩ 5 = some (pnC x) ∧ w'.cell? ⟨k0 + 2, 3, none⟩ = some (.int .i64 q.ev) ∧ w'.cell? ⟨k0 + 3, 0, none⟩ = some (.int .i64 x.fr) ∧ w'.cell? ⟨k0 + 3, 1, none⟩ = some (.int .i64 x.to) := by
    intro w' hl
    have z1 := (Ba.chg (Chg.of_later (ks := []) (((lb.trans lc).trans ld).trans hl)) (by simp))
    have z2 := pdLater Bb ((lc.trans ld).trans hl)
    have z3 := qdLater Bc (ld.trans hl)
    have z4 := Bd.chg (Chg.of_later (ks := []) hl) (by simp)
    exact ⟨Blk.cellsAt (l := [dv, mv]) z1, Blk.cellsAt (l := pdC p) z2, Blk.cellsAt (l := qdC q) z3, Blk.cellsAt (l := pnC x) z4, z3.cell 3, z4.cell 0, z4.cell 1⟩
  have hk1 : w.heap.size ≤ k0 := by omega
  clear hwa hwb hwc hwd sa sb sc la lb lc ld Ba Bb Bc Bd
  obtain ⟨f1, f2, f3, f4, f5, f6, f7⟩ := FF w1 (Later.refl _)
  repeat' (first | (simp (disch := omega) only [push_cast, ↓reduceIte, zA, zG, zB, zH, zI, zC, zJ, zK, zL, zD, zE, zF, zM, zN, zO, zP, zQ, reduceCtorEq, not_true_eq_false, not_false_eq_true, f2, f4]) | (first | refine iE ?_ ?_ | refine iD ?_ ?_ | refine iQ ?_ ?_ | refine iV ?_ ?_) <;> intro _ | refine And.intro (by omega) ?_ | fail)
  refine (scuboid_c p x w1 (hp.later l01) hx).mono ?_
  rintro _ w2 ⟨⟨t0, rfl⟩, l2⟩
  have hok := cub_ok ((hp.later l01).later l2) hx
  unfold elB
  generalize cub p x = C at *
  obtain ⟨o, c, hv⟩ := Sl.slice hok.dv
  repeat' (first | (simp (disch := omega) only [push_cast, ↓reduceIte, zA, zG, zB, zH, zI, zC, zJ, zK, zL, zD, zE, zF, zM, zN, zO, zP, zQ, reduceCtorEq, not_true_eq_false, not_false_eq_true]) | (first | refine iE ?_ ?_ | refine iD ?_ ?_ | refine iQ ?_ ?_ | refine iV ?_ ?_) <;> intro _ | refine And.intro (by omega) ?_ | fail)
  refine vStore_new rfl rfl (by intro u hu; simp only [List.mem_toArray, List.mem_cons, List.not_mem_nil, or_false] at hu; rcases hu with rfl | rfl | rfl <;> first | rfl | (rw [hv]; rfl)) ?_
  have l3 := later_alloc w2 (.cells #[.int .i64 t0, .int .i64 C.g, C.dv] 51)
  have B3 := Blk.new w2 #[.int .i64 t0, .int .i64 C.g, C.dv] 51
  generalize w2.alloc (.cells #[.int .i64 t0, .int .i64 C.g, C.dv] 51) = w3 at *
  generalize w2.heap.size = k3 at *
  have l13 := l2.trans l3
  have l03 := l01.trans l13
  obtain ⟨f1, f2, f3, f4, f5, f6, f7⟩ := FF w3 l13
  repeat' (first | (simp (disch := omega) only [push_cast, ↓reduceIte, zA, zG, zB, zH, zI, zC, zJ, zK, zL, zD, zE, zF, zM, zN, zO, zP, zQ, reduceCtorEq, not_true_eq_false, not_false_eq_true, f1, f3]) | (first | refine iE ?_ ?_ | refine iD ?_ ?_ | refine iQ ?_ ?_ | refine iV ?_ ?_) <;> intro _ | refine And.intro (by omega) ?_ | fail)
  refine (tused_c dv mv d m q w3 (h.later l03) (hq.later l03) hi.c hi.b hi.d).mono ?_
  rintro uv w4 ⟨hu, l4⟩
  repeat' (first | (simp (disch := omega) only [push_cast, ↓reduceIte, zA, zG, zB, zH, zI, zC, zJ, zK, zL, zD, zE, zF, zM, zN, zO, zP, zQ, reduceCtorEq, not_true_eq_false, not_false_eq_true]) | (first | refine iE ?_ ?_ | refine iD ?_ ?_ | refine iQ ?_ ?_ | refine iV ?_ ?_) <;> intro _ | refine And.intro (by omega) ?_ | fail)
  have hpr : ∀ s ∈ usedL d q, Prd Try.prog w4 37 #[pt k3] (.string s) (!inL s C.dl) := by
    intro s _ w' hl
    have b : w'.cell? ⟨k3, 2, none⟩ = some C.dv := hl.cell (l4.cell (B3.cell 2))
    refine (el1_c s k3 C.dv C.dl w' b (((hok.later l3).later l4).later hl).dv).mono ?_
    rintro r w'' ⟨rfl, rfl⟩
    exact ⟨rfl, Later.refl _⟩
  refine (scontainsF_c uv (usedL d q) 37 #[pt k3] (fun s => !inL s C.dl) w4 hu hpr).mono ?_
  rintro _ w5 ⟨rfl, l5⟩
  rw [not_any]
  have l15 := l13.trans (l4.trans l5)
  have l05 := l01.trans l15
  cases hall : (usedL d q).all (fun s => inL s C.dl) with
  | false =>
    repeat' (first | (simp (disch := omega) only [push_cast, ↓reduceIte, zA, zG, zB, zH, zI, zC, zJ, zK, zL, zD, zE, zF, zM, zN, zO, zP, zQ, reduceCtorEq, not_true_eq_false, not_false_eq_true]) | (first | refine iE ?_ ?_ | refine iD ?_ ?_ | refine iQ ?_ ?_ | refine iV ?_ ?_) <;> intro _ | refine And.intro (by omega) ?_ | refine drawn_q ?_ | fail)
    first | exact ⟨(by simp), l05⟩ | exact l05
  | true =>
  obtain ⟨f1, f2, f3, f4, f5, f6, f7⟩ := FF w5 l15
  have g1 : w5.cell? ⟨k3, 1, none⟩ = some (.int .i64 C.g) := (l4.trans l5).cell (B3.cell 1)
  have hgI : I6 C.g := hok.g
  have hqI : I6 q.ev := hq.ev
  repeat' (first | (simp (disch := omega) only [push_cast, ↓reduceIte, zA, zG, zB, zH, zI, zC, zJ, zK, zL, zD, zE, zF, zM, zN, zO, zP, zQ, reduceCtorEq, not_true_eq_false, not_false_eq_true, f6, g1, addr_add_eq, Nat.zero_add]) | (first | refine iE ?_ ?_ | refine iD ?_ ?_ | refine iQ ?_ ?_ | refine iV ?_ ?_) <;> intro _ | refine And.intro (by omega) ?_ | fail)
  refine (baligned_c x.fr C.g w5 hf hgI).mono ?_
  rintro _ w0 ⟨rfl, h0⟩; obtain rfl := h0.symm
  cases ha : alB x.fr C.g with
  | false =>
    repeat' (first | (simp (disch := omega) only [push_cast, ↓reduceIte, zA, zG, zB, zH, zI, zC, zJ, zK, zL, zD, zE, zF, zM, zN, zO, zP, zQ, reduceCtorEq, not_true_eq_false, not_false_eq_true]) | (first | refine iE ?_ ?_ | refine iD ?_ ?_ | refine iQ ?_ ?_ | refine iV ?_ ?_) <;> intro _ | refine And.intro (by omega) ?_ | refine drawn_q ?_ | fail)
    first | exact ⟨(by simp), l05⟩ | exact l05
  | true =>
  repeat' (first | (simp (disch := omega) only [push_cast, ↓reduceIte, zA, zG, zB, zH, zI, zC, zJ, zK, zL, zD, zE, zF, zM, zN, zO, zP, zQ, reduceCtorEq, not_true_eq_false, not_false_eq_true, f7, g1, addr_add_eq, Nat.zero_add]) | (first | refine iE ?_ ?_ | refine iD ?_ ?_ | refine iQ ?_ ?_ | refine iV ?_ ?_) <;> intro _ | refine And.intro (by omega) ?_ | fail)
  refine (baligned_c x.to C.g w5 ht hgI).mono ?_
  rintro _ w0 ⟨rfl, h0⟩; obtain rfl := h0.symm
  cases hb : alB x.to C.g with
  | false =>
    repeat' (first | (simp (disch := omega) only [push_cast, ↓reduceIte, zA, zG, zB, zH, zI, zC, zJ, zK, zL, zD, zE, zF, zM, zN, zO, zP, zQ, reduceCtorEq, not_true_eq_false, not_false_eq_true]) | (first | refine iE ?_ ?_ | refine iD ?_ ?_ | refine iQ ?_ ?_ | refine iV ?_ ?_) <;> intro _ | refine And.intro (by omega) ?_ | refine drawn_q ?_ | fail)
    first | exact ⟨(by simp), l05⟩ | exact l05
  | true =>
  have hR : Rt C.g := by
    unfold alB at ha
    exact (of_decide_eq_true ha).1
  have hE := evB hi.e hR
  by_cases he0 : q.ev = 0
  · have d0 := decide_eq_true he0
    rw [d0, Bool.true_or] at hE
    rw [← hE]
    repeat' (first | (simp (disch := omega) only [push_cast, ↓reduceIte, zA, zG, zB, zH, zI, zC, zJ, zK, zL, zD, zE, zF, zM, zN, zO, zP, zQ, reduceCtorEq, not_true_eq_false, not_false_eq_true, f5, d0, addr_add_eq, Nat.zero_add]) | (first | refine iE ?_ ?_ | refine iD ?_ ?_ | refine iQ ?_ ?_ | refine iV ?_ ?_) <;> intro _ | refine And.intro (by omega) ?_ | refine drawn_q ?_ | fail)
    first | exact ⟨(by simp), l05⟩ | exact l05
  · have d0 := decide_eq_false he0
    rw [d0, Bool.false_or] at hE
    rw [← hE]
    repeat' (first | (simp (disch := omega) only [push_cast, ↓reduceIte, zA, zG, zB, zH, zI, zC, zJ, zK, zL, zD, zE, zF, zM, zN, zO, zP, zQ, reduceCtorEq, not_true_eq_false, not_false_eq_true, f5, d0, g1, addr_add_eq, Nat.zero_add]) | (first | refine iE ?_ ?_ | refine iD ?_ ?_ | refine iQ ?_ ?_ | refine iV ?_ ?_) <;> intro _ | refine And.intro (by omega) ?_ | fail)
    refine (bcoarser_c q.ev C.g w5 hqI hgI).mono ?_
    rintro _ w0 ⟨rfl, h0⟩; obtain rfl := h0.symm
    repeat' (first | (simp (disch := omega) only [push_cast, ↓reduceIte, zA, zG, zB, zH, zI, zC, zJ, zK, zL, zD, zE, zF, zM, zN, zO, zP, zQ, reduceCtorEq, not_true_eq_false, not_false_eq_true]) | (first | refine iE ?_ ?_ | refine iD ?_ ?_ | refine iQ ?_ ?_ | refine iV ?_ ?_) <;> intro _ | refine And.intro (by omega) ?_ | refine drawn_q ?_ | fail)
    first | exact ⟨(by simp), l05⟩ | exact l05
set_option maxHeartbeats 2000000 in
theorem deligible_c (dv mv : Value) (d m : List ByteArray) (p : PD) (q : QD) (x : PN) (w : World) (h : ScIs w dv mv d m) (hp : p.Ok w) (hq : q.Ok w) (hx : PnIn p x) (hi : QIn d q) (hf : I6 x.fr) (ht : I6 x.to) : FnC Try.prog 16 #[scV dv mv, .agg (pdC p).toArray, .agg (qdC q).toArray, .agg (pnC x).toArray] w fun v w' => v = .bool (elB d p q x) ∧ Later w w' := by
  have esc : scV dv mv = .agg #[dv, mv] := rfl
  rw [esc]
  refine enter16 _ _ _ _ ?_
  unfold B16
  have eca : (Value.agg (pdC p).toArray).cells = (pdC p).toArray := rfl
  have ecb : (Value.agg #[dv, mv]).cells = #[dv, mv] := rfl
  have ecc : (Value.agg (qdC q).toArray).cells = (qdC q).toArray := rfl
  have ecd : (Value.agg (pnC x).toArray).cells = (pnC x).toArray := rfl
  have s0 : ∃ k0, k0 = w.heap.size := ⟨_, rfl⟩
  obtain ⟨k0, hk0⟩ := s0
  have la := later_alloc w (.cells #[dv, mv] 24)
  have Ba := Blk.new w #[dv, mv] 24
  have sa : (w.alloc (.cells #[dv, mv] 24)).heap.size = k0 + 1 := by rw [World.size_alloc, hk0]
  rw [← hk0] at Ba
  generalize hwa : w.alloc (.cells #[dv, mv] 24) = wa at *
  have lb := later_alloc wa (.cells (pdC p).toArray 28)
  have Bb := Blk.new wa (pdC p).toArray 28
  have sb : (wa.alloc (.cells (pdC p).toArray 28)).heap.size = k0 + 2 := by rw [World.size_alloc, sa]
  rw [sa] at Bb
  generalize hwb : wa.alloc (.cells (pdC p).toArray 28) = wb at *
  have lc := later_alloc wb (.cells (qdC q).toArray 42)
  have Bc := Blk.new wb (qdC q).toArray 42
  have sc : (wb.alloc (.cells (qdC q).toArray 42)).heap.size = k0 + 3 := by rw [World.size_alloc, sb]
  rw [sb] at Bc
  generalize hwc : wb.alloc (.cells (qdC q).toArray 42) = wc at *
  have ld := later_alloc wc (.cells (pnC x).toArray 49)
  have Bd := Blk.new wc (pnC x).toArray 49
  rw [sc] at Bd
  generalize hwd : wc.alloc (.cells (pnC x).toArray 49) = w1 at *
  repeat' (first | (simp (disch := omega) only [push_cast, ↓reduceIte, zA, zG, zB, zH, zI, zC, zJ, zK, zL, zD, zE, zF, zM, zN, zO, zP, zQ, reduceCtorEq, not_true_eq_false, not_false_eq_true, eca, ecb, ecc, ecd, hwa, sa, hwb, sb, hwc, sc, hwd, ← hk0]) | (first | refine iE ?_ ?_ | refine iD ?_ ?_ | refine iQ ?_ ?_ | refine iV ?_ ?_) <;> intro _ | refine And.intro (by omega) ?_ | fail)
  have l01 : Later w w1 := ((la.trans lb).trans lc).trans ld
  have FF : ∀ w', Later w1 w' → cellsAt w' ⟨k0, 0, none⟩ 2 = some [dv, mv] ∧ cellsAt w' ⟨k0 + 1, 0, none⟩ 3 = some (pdC p) ∧ cellsAt w' ⟨k0 + 2, 0, none⟩ 12 = some (qdC q) ∧ cellsAt w' ⟨k0 + 3, 0, none⟩ 5 = some (pnC x) ∧ w'.cell? ⟨k0 + 2, 3, none⟩ = some (.int .i64 q.ev) ∧ w'.cell? ⟨k0 + 3, 0, none⟩ = some (.int .i64 x.fr) ∧ w'.cell? ⟨k0 + 3, 1, none⟩ = some (.int .i64 x.to) := by
    intro w' hl
    have z1 := (Ba.chg (Chg.of_later (ks := []) (((lb.trans lc).trans ld).trans hl)) (by simp))
    have z2 := pdLater Bb ((lc.trans ld).trans hl)
    have z3 := qdLater Bc (ld.trans hl)
    have z4 := Bd.chg (Chg.of_later (ks := []) hl) (by simp)
    exact ⟨Blk.cellsAt (l := [dv, mv]) z1, Blk.cellsAt (l := pdC p) z2, Blk.cellsAt (l := qdC q) z3, Blk.cellsAt (l := pnC x) z4, z3.cell 3, z4.cell 0, z4.cell 1⟩
  have hk1 : w.heap.size ≤ k0 := by omega
  clear hwa hwb hwc hwd sa sb sc la lb lc ld Ba Bb Bc Bd
  obtain ⟨f1, f2, f3, f4, f5, f6, f7⟩ := FF w1 (Later.refl _)
  repeat' (first | (simp (disch := omega) only [push_cast, ↓reduceIte, zA, zG, zB, zH, zI, zC, zJ, zK, zL, zD, zE, zF, zM, zN, zO, zP, zQ, reduceCtorEq, not_true_eq_false, not_false_eq_true, f2, f4]) | (first | refine iE ?_ ?_ | refine iD ?_ ?_ | refine iQ ?_ ?_ | refine iV ?_ ?_) <;> intro _ | refine And.intro (by omega) ?_ | fail)
  refine (dcuboid_c p x w1 (hp.later l01) hx).mono ?_
  rintro _ w2 ⟨rfl, l2⟩
  have hok := cub_ok ((hp.later l01).later l2) hx
  unfold elB
  generalize cub p x = C at *
  obtain ⟨o, c, hv⟩ := Sl.slice hok.dv
  have l02 := l01.trans l2
  obtain ⟨f1, f2, f3, f4, f5, f6, f7⟩ := FF w2 l2
  repeat' (first | (simp (disch := omega) only [push_cast, ↓reduceIte, zA, zG, zB, zH, zI, zC, zJ, zK, zL, zD, zE, zF, zM, zN, zO, zP, zQ, reduceCtorEq, not_true_eq_false, not_false_eq_true, f1, f3]) | (first | refine iE ?_ ?_ | refine iD ?_ ?_ | refine iQ ?_ ?_ | refine iV ?_ ?_) <;> intro _ | refine And.intro (by omega) ?_ | fail)
  refine (used_c dv mv d m q w2 (h.later l02) (hq.later l02) hi.c hi.b hi.d).mono ?_
  rintro uv w3 ⟨hu, l3⟩
  have hu := OwnS.st hu
  have hul := used_len d q
  have hdl := hi.d
  obtain ⟨uo, uc, rfl, u1, u2, hu, u3⟩ := hu.openM
  have hok := hok.later l3
  have l13 := l2.trans l3
  have l03 := l01.trans l13
  generalize usedL d q = U at *
  repeat' (first | (simp (disch := omega) only [push_cast, ↓reduceIte, zA, zG, zB, zH, zI, zC, zJ, zK, zL, zD, zE, zF, zM, zN, zO, zP, zQ, reduceCtorEq, not_true_eq_false, not_false_eq_true]) | (first | refine iE ?_ ?_ | refine iD ?_ ?_ | refine iQ ?_ ?_ | refine iV ?_ ?_) <;> intro _ | refine And.intro (by omega) ?_ | fail)
  refine vc_loop W16_0 (fun i : Nat => [(12, .int .i64 (i : Int))]) (fun i w' => i ≤ U.length ∧ Later w3 w' ∧ (U.take i).all (fun s => inL s C.dl) = true) (fun i => U.length - i) 0 (by decide) ?_ ?_ ?_
  · simp (disch := omega) only [push_cast, ↓reduceIte, zA, zG, zB, zH, zI, zC, zJ, zK, zL, zD, zE, zF, zM, zN, zO, zP, zQ, reduceCtorEq, not_true_eq_false, not_false_eq_true]
    try rfl
  · exact ⟨Nat.zero_le _, Later.refl _, by simp⟩
  rintro i uu w4 ⟨hi', l4, hall⟩
  have l14 := l13.trans l4
  have l04 := l01.trans l14
  by_cases hik : i < U.length
  · have hd2 : decide ((i : Int) < (U.length : Int)) = true := decide_eq_true (by omega)
    obtain ⟨ua, rfl⟩ := Sl.some hu hik
    have hc := StS.atS (Sl.later hu l4) hik
    have hst : (U.take (i + 1)).all (fun s => inL s C.dl) = inL U[i] C.dl := by
      rw [List.take_succ_eq_append_getElem hik, List.all_append, hall]; simp
    have hmem : U[i] ∈ U := List.getElem_mem hik
    repeat' (first | (simp (disch := omega) only [push_cast, ↓reduceIte, zA, zG, zB, zH, zI, zC, zJ, zK, zL, zD, zE, zF, zM, zN, zO, zP, zQ, reduceCtorEq, not_true_eq_false, not_false_eq_true, hd2, hc]) | (first | refine iE ?_ ?_ | refine iD ?_ ?_ | refine iQ ?_ ?_ | refine iV ?_ ?_) <;> intro _ | refine And.intro (by omega) ?_ | fail)
    refine (dfind_c C.dv C.dl U[i] w4 (hok.later l4).dv).mono ?_
    rintro _ w0 ⟨rfl, h0⟩; obtain rfl := h0.symm
    unfold fndV
    cases hin : inL U[i] C.dl with
    | false =>
      have hno : U.all (fun s => inL s C.dl) = false := by
        cases hq : U.all (fun s => inL s C.dl) with
        | false => rfl
        | true => have := List.all_eq_true.1 hq _ hmem; rw [hin] at this; cases this
      repeat' (first | (simp (disch := omega) only [push_cast, ↓reduceIte, zA, zG, zB, zH, zI, zC, zJ, zK, zL, zD, zE, zF, zM, zN, zO, zP, zQ, reduceCtorEq, not_true_eq_false, not_false_eq_true]) | (first | refine iE ?_ ?_ | refine iD ?_ ?_ | refine iQ ?_ ?_ | refine iV ?_ ?_) <;> intro _ | refine And.intro (by omega) ?_ | refine drawn_q ?_ | fail)
      first | exact ⟨(by simp [hno]), l04⟩ | exact l04
    | true =>
      rw [hin] at hst
      repeat' (first | (simp (disch := omega) only [push_cast, ↓reduceIte, zA, zG, zB, zH, zI, zC, zJ, zK, zL, zD, zE, zF, zM, zN, zO, zP, zQ, reduceCtorEq, not_true_eq_false, not_false_eq_true]) | (first | refine iE ?_ ?_ | refine iD ?_ ?_ | refine iQ ?_ ?_ | refine iV ?_ ?_) <;> intro _ | refine And.intro (by omega) ?_ | refine drawn_q ?_ | fail)
      exact ⟨rfl, i + 1, by simp (disch := omega) only [push_cast, ↓reduceIte, zA, zG, zB, zH, zI, zC, zJ, zK, zL, zD, zE, zF, zM, zN, zO, zP, zQ, reduceCtorEq, not_true_eq_false, not_false_eq_true], ⟨by omega, l4, hst⟩, by dsimp only; omega⟩
  have hd2 : decide ((i : Int) < (U.length : Int)) = false := decide_eq_false (by omega)
  rw [List.take_of_length_le (by omega)] at hall
  rw [hall, Bool.true_and]
  obtain ⟨f1, f2, f3, f4, f5, f6, f7⟩ := FF w4 l14
  have hgI : I6 C.g := hok.g
  repeat' (first | (simp (disch := omega) only [push_cast, ↓reduceIte, zA, zG, zB, zH, zI, zC, zJ, zK, zL, zD, zE, zF, zM, zN, zO, zP, zQ, reduceCtorEq, not_true_eq_false, not_false_eq_true, hd2, f6, addr_add_eq, Nat.zero_add]) | (first | refine iE ?_ ?_ | refine iD ?_ ?_ | refine iQ ?_ ?_ | refine iV ?_ ?_) <;> intro _ | refine And.intro (by omega) ?_ | fail)
  refine (raligned_c x.fr C.g w4 hf hgI).mono ?_
  rintro _ w0 ⟨rfl, h0⟩; obtain rfl := h0.symm
  repeat' (first | (simp (disch := omega) only [push_cast, ↓reduceIte, zA, zG, zB, zH, zI, zC, zJ, zK, zL, zD, zE, zF, zM, zN, zO, zP, zQ, reduceCtorEq, not_true_eq_false, not_false_eq_true, f7, addr_add_eq, Nat.zero_add]) | (first | refine iE ?_ ?_ | refine iD ?_ ?_ | refine iQ ?_ ?_ | refine iV ?_ ?_) <;> intro _ | refine And.intro (by omega) ?_ | fail)
  refine (raligned_c x.to C.g w4 ht hgI).mono ?_
  rintro _ w0 ⟨rfl, h0⟩; obtain rfl := h0.symm
  cases ha : alB x.fr C.g with
  | false =>
    repeat' (first | (simp (disch := omega) only [push_cast, ↓reduceIte, zA, zG, zB, zH, zI, zC, zJ, zK, zL, zD, zE, zF, zM, zN, zO, zP, zQ, reduceCtorEq, not_true_eq_false, not_false_eq_true]) | (first | refine iE ?_ ?_ | refine iD ?_ ?_ | refine iQ ?_ ?_ | refine iV ?_ ?_) <;> intro _ | refine And.intro (by omega) ?_ | refine drawn_q ?_ | fail)
    first | exact ⟨(by simp), l04⟩ | exact l04
  | true =>
  cases hb : alB x.to C.g with
  | false =>
    repeat' (first | (simp (disch := omega) only [push_cast, ↓reduceIte, zA, zG, zB, zH, zI, zC, zJ, zK, zL, zD, zE, zF, zM, zN, zO, zP, zQ, reduceCtorEq, not_true_eq_false, not_false_eq_true]) | (first | refine iE ?_ ?_ | refine iD ?_ ?_ | refine iQ ?_ ?_ | refine iV ?_ ?_) <;> intro _ | refine And.intro (by omega) ?_ | refine drawn_q ?_ | fail)
    first | exact ⟨(by simp), l04⟩ | exact l04
  | true =>
  have hR : Rt C.g := by
    unfold alB at ha
    exact (of_decide_eq_true ha).1
  have hg0 : ¬ C.g = 0 := by unfold Rt at hR; omega
  have hmod : decide (Int.tmod q.ev C.g = 0) = decide (q.ev % C.g = 0) := decide_eq_decide.2 (tm0 q.ev C.g (by unfold Rt at hR; omega))
  repeat' (first | (simp (disch := omega) only [push_cast, ↓reduceIte, zA, zG, zB, zH, zI, zC, zJ, zK, zL, zD, zE, zF, zM, zN, zO, zP, zQ, reduceCtorEq, not_true_eq_false, not_false_eq_true, f5, hg0, hmod, addr_add_eq, Nat.zero_add]) | (first | refine iE ?_ ?_ | refine iD ?_ ?_ | refine iQ ?_ ?_ | refine iV ?_ ?_) <;> intro _ | refine And.intro (by omega) ?_ | refine drawn_q ?_ | fail)
  first | exact ⟨(by simp), l04⟩ | exact l04
end Go.Proofs.Ytnofalhkapmcnaa
end
section
set_option linter.unusedSimpArgs false
namespace Go.Vc
open Go
/-- Less rows; if as many, a lower projection. -/
def ltN (a b : PN) : Bool := decide (a.rows < b.rows ∨ a.rows = b.rows ∧ a.proj < b.proj)
def cI (a b : Int) : Int := if a < b then -1 else if b < a then 1 else 0
def cmpN (a b : PN) : Int := if cI a.rows b.rows = 0 then cI a.proj b.proj else cI a.rows b.rows
theorem cmpN_lt (a b : PN) : decide (cmpN a b < 0) = ltN a b := by
  unfold cmpN ltN cI
  refine decide_eq_decide.2 ?_
  split <;> split <;> (try split) <;> omega
def minN (m : PN) (l : List PN) : PN := l.foldl (fun m y => if ltN y m then y else m) m
theorem minN_snoc (m : PN) (l : List PN) (y : PN) : minN m (l ++ [y]) = if ltN y (minN m l) then y else minN m l := by
  unfold minN
  rw [List.foldl_append]; rfl
end Go.Vc
namespace Go.Proofs.Ytnofalhkapmcnaa
open Go.Vc Go.Key Go.Bkt
set_option maxRecDepth 100000
theorem pindexF_c (v : Value) (l : List PN) (g : FuncId) (lb : Array Value) (p : PN → Bool) (w : World) (h : RecS pnC 5 w v l) (hp : ∀ x ∈ l, Prd Try.prog w g lb (.agg (pnC x).toArray) (p x)) : FnC Try.prog 85 #[v, .func (.func g) #[] lb] w fun r w' => r = .int .i64 (idxI p l) ∧ Later w w' := by
  obtain ⟨o, c, rfl, g1, g2⟩ := h.slice
  refine enter85 _ _ ?_
  unfold B85
  repeat' (first | (simp (disch := omega) only [push_cast, ↓reduceIte, zA, zG, zB, zH, zI, zC, zJ, zK, zL, zD, zE, zF, zM, zN, zO, zP, zQ, reduceCtorEq, not_true_eq_false, not_false_eq_true]) | (first | refine iE ?_ ?_ | refine iD ?_ ?_ | refine iQ ?_ ?_ | refine iV ?_ ?_) <;> intro _ | refine And.intro (by omega) ?_ | refine drawn_q ?_ | fail)
  refine vc_loop W85_0 (fun i : Nat => [(8, .int .i64 (i : Int))]) (fun i w' => i ≤ l.length ∧ Later w w' ∧ (l.take i).any p = false) (fun i => l.length - i) 0 (by decide) ?_ ?_ ?_
  · simp (disch := omega) only [push_cast, ↓reduceIte, zA, zG, zB, zH, zI, zC, zJ, zK, zL, zD, zE, zF, zM, zN, zO, zP, zQ, reduceCtorEq, not_true_eq_false, not_false_eq_true]
    try rfl
  · exact ⟨Nat.zero_le _, Later.refl _, by simp⟩
  rintro i uu w1 ⟨hi, l1, hno⟩
  by_cases hil : i < l.length
  · have hd : decide ((i : Int) < (l.length : Int)) = true := decide_eq_true (by omega)
    obtain ⟨a, rfl, c0⟩ := RecS.at pnC_len (h.later l1) hil
    repeat' (first | (simp (disch := omega) only [push_cast, ↓reduceIte, zA, zG, zB, zH, zI, zC, zJ, zK, zL, zD, zE, zF, zM, zN, zO, zP, zQ, reduceCtorEq, not_true_eq_false, not_false_eq_true, hd, c0]) | (first | refine iE ?_ ?_ | refine iD ?_ ?_ | refine iQ ?_ ?_ | refine iV ?_ ?_) <;> intro _ | refine And.intro (by omega) ?_ | refine drawn_q ?_ | fail)
    refine (hp l[i] (List.getElem_mem hil) w1 l1).mono ?_
    rintro _ w2 ⟨rfl, l2⟩
    cases hx : p l[i] with
    | true =>
      rw [idxI_hit hil hx hno]
      repeat' (first | (simp (disch := omega) only [push_cast, ↓reduceIte, zA, zG, zB, zH, zI, zC, zJ, zK, zL, zD, zE, zF, zM, zN, zO, zP, zQ, reduceCtorEq, not_true_eq_false, not_false_eq_true]) | (first | refine iE ?_ ?_ | refine iD ?_ ?_ | refine iQ ?_ ?_ | refine iV ?_ ?_) <;> intro _ | refine And.intro (by omega) ?_ | refine drawn_q ?_ | fail)
      first | exact ⟨rfl, (l1.trans l2)⟩ | exact (l1.trans l2)
    | false =>
      repeat' (first | (simp (disch := omega) only [push_cast, ↓reduceIte, zA, zG, zB, zH, zI, zC, zJ, zK, zL, zD, zE, zF, zM, zN, zO, zP, zQ, reduceCtorEq, not_true_eq_false, not_false_eq_true]) | (first | refine iE ?_ ?_ | refine iD ?_ ?_ | refine iQ ?_ ?_ | refine iV ?_ ?_) <;> intro _ | refine And.intro (by omega) ?_ | refine drawn_q ?_ | fail)
      exact ⟨rfl, i + 1, by simp (disch := omega) only [push_cast, ↓reduceIte, zA, zG, zB, zH, zI, zC, zJ, zK, zL, zD, zE, zF, zM, zN, zO, zP, zQ, reduceCtorEq, not_true_eq_false, not_false_eq_true], ⟨by omega, l1.trans l2, any_step hil hx hno⟩, by dsimp only; omega⟩
  · have hd : decide ((i : Int) < (l.length : Int)) = false := decide_eq_false (by omega)
    rw [List.take_of_length_le (by omega)] at hno
    rw [idxI_miss hno]
    repeat' (first | (simp (disch := omega) only [push_cast, ↓reduceIte, zA, zG, zB, zH, zI, zC, zJ, zK, zL, zD, zE, zF, zM, zN, zO, zP, zQ, reduceCtorEq, not_true_eq_false, not_false_eq_true, hd]) | (first | refine iE ?_ ?_ | refine iD ?_ ?_ | refine iQ ?_ ?_ | refine iV ?_ ?_) <;> intro _ | refine And.intro (by omega) ?_ | refine drawn_q ?_ | fail)
    first | exact ⟨rfl, l1⟩ | exact l1
def zeroPn : Value := .agg #[.int .i64 0, .int .i64 0, .int .i64 0, .int .i64 0, .int .i64 0]
theorem zeroP_one (m : Nat) : (∀ u ∈ (Builtin.zeroCells zeroPn.cells m).toList, u.oneCell' = true) ∧ (Builtin.zeroCells zeroPn.cells m).toList.length = m * 5 := by
  constructor
  · intro u hu
    simp only [Builtin.zeroCells, Array.toList_map, List.mem_map] at hu
    obtain ⟨i, _, rfl⟩ := hu
    have hs : zeroPn.cells.size = 5 := rfl
    rw [hs]
    have : i % 5 = 0 ∨ i % 5 = 1 ∨ i % 5 = 2 ∨ i % 5 = 3 ∨ i % 5 = 4 := by omega
    rcases this with h | h | h | h | h <;> rw [h] <;> rfl
  · simp only [Builtin.zeroCells, Array.toList_map, List.length_map, Array.length_toList, Array.size_range]
    rfl
set_option maxHeartbeats 2000000 in
theorem pdelete_c (B : Nat) (v : Value) (es : List PN) (g : FuncId) (lb : Array Value) (p : PN → Bool) (w0 w : World) (hl : Later w0 w) (hB : w0.heap.size ≤ B) (ho : OwnN w B v es) (hp : ∀ x ∈ es, Prd Try.prog w0 g lb (.agg (pnC x).toArray) (p x)) (h63 : es.length ≤ 1000000) :
    FnC Try.prog 45 #[v, .func (.func g) #[] lb] w fun r w' => RecS pnC 5 w' r (es.filter fun x => !p x) ∧ Later w0 w' := by
  have hm := OwnR.s ho
  obtain ⟨o, c, rfl, g1, g2⟩ := hm.slice
  refine enter45 _ _ ?_
  unfold B45
  repeat' (first | (simp (disch := omega) only [push_cast, ↓reduceIte, zA, zG, zB, zH, zI, zC, zJ, zK, zL, zD, zE, zF, zM, zN, zO, zP, zQ, reduceCtorEq, not_true_eq_false, not_false_eq_true]) | (first | refine iE ?_ ?_ | refine iD ?_ ?_ | refine iQ ?_ ?_ | refine iV ?_ ?_) <;> intro _ | refine And.intro (by omega) ?_ | refine drawn_q ?_ | fail)
  refine (pindexF_c _ es g lb p w hm (fun x hx => (hp x hx).later hl)).mono ?_
  rintro _ w1 ⟨rfl, l1⟩
  have l01 := hl.trans l1
  rcases idxI_or p es with ⟨he, hall⟩ | ⟨n, hn, he, hpn, hbef⟩
  · rw [he]
    have e : (es.filter fun x => !p x) = es := List.filter_eq_self.2 fun x hx => by simp [hall x hx]
    rw [e]
    repeat' (first | (simp (disch := omega) only [push_cast, ↓reduceIte, zA, zG, zB, zH, zI, zC, zJ, zK, zL, zD, zE, zF, zM, zN, zO, zP, zQ, reduceCtorEq, not_true_eq_false, not_false_eq_true]) | (first | refine iE ?_ ?_ | refine iD ?_ ?_ | refine iQ ?_ ?_ | refine iV ?_ ?_) <;> intro _ | refine And.intro (by omega) ?_ | refine drawn_q ?_ | fail)
    first | exact ⟨(hm.later l1), l01⟩ | exact l01
  · rw [he]
    cases o with
    | none => have h1 := SlN.len hm; have := h1.2.2.2.2 rfl; omega
    | some a =>
    obtain ⟨gr, rfl, hgr, _⟩ := own_writes ho
    have hpre : (es.take (n + 1)).filter (fun x => !p x) = es.take n := by
      rw [filter_step hn, if_neg (by rw [hpn]; simp), List.append_nil]
      exact List.filter_eq_self.2 fun x hx => by
        obtain ⟨j, hj, rfl⟩ := List.getElem_of_mem hx
        rw [List.length_take] at hj
        rw [List.getElem_take]
        simp [hbef j (by omega) (by omega)]
    repeat' (first | (simp (disch := omega) only [push_cast, ↓reduceIte, zA, zG, zB, zH, zI, zC, zJ, zK, zL, zD, zE, zF, zM, zN, zO, zP, zQ, reduceCtorEq, not_true_eq_false, not_false_eq_true]) | (first | refine iE ?_ ?_ | refine iD ?_ ?_ | refine iQ ?_ ?_ | refine iV ?_ ?_) <;> intro _ | refine And.intro (by omega) ?_ | refine drawn_q ?_ | fail)
    refine vc_loop W45_0 (fun q : Nat × Nat => [(5, .int .i64 (q.1 : Int)), (6, .int .i64 (q.2 : Int))])
      (fun q w' => q.1 < q.2 ∧ q.2 ≤ es.length ∧ Later w0 w' ∧ ∃ cur : List PN, cur.length = es.length ∧ OwnN w' B (.slice (some ⟨gr, 0, none⟩) es.length c) cur ∧ cur.take q.1 = (es.take q.2).filter (fun x => !p x) ∧ cur.drop q.2 = es.drop q.2) (fun q => es.length - q.2) (n, n + 1) (by decide) ?_ ?_ ?_
    · simp (disch := omega) only [push_cast, ↓reduceIte, zA, zG, zB, zH, zI, zC, zJ, zK, zL, zD, zE, zF, zM, zN, zO, zP, zQ, reduceCtorEq, not_true_eq_false, not_false_eq_true]
    · exact ⟨by dsimp only; omega, by dsimp only; omega, l01, es, rfl, ho.later l1, by dsimp only; exact hpre.symm, rfl⟩
    rintro ⟨i, j⟩ uu w2 ⟨hij, hj, l2, cur, hcl, hO, hT, hD⟩
    dsimp only at hij hj hT hD
    by_cases hlt : j < es.length
    · have hlt' : j < cur.length := by omega
      have hcur : cur[j] = es[j] := by
        have := congrArg (fun l => l[0]?) hD
        simp only [List.getElem?_drop, Nat.add_zero] at this
        rw [List.getElem?_eq_getElem hlt', List.getElem?_eq_getElem hlt] at this
        exact Option.some.inj this
      have f1 := RecS.get pnC_len (OwnR.s hO) hlt'
      rw [hcur] at f1
      have hstep := filter_step (p := fun x => !p x) hlt
      have hpx := hp es[j] (List.getElem_mem _)
      have hD' : cur.drop (j + 1) = es.drop (j + 1) := by
        have := congrArg (List.drop 1) hD
        simpa [List.drop_drop] using this
      generalize es[j] = x at *
      rw [addr_add_eq, Nat.zero_add] at f1
      repeat' (first | (simp (disch := omega) only [push_cast, ↓reduceIte, zA, zG, zB, zH, zI, zC, zJ, zK, zL, zD, zE, zF, zM, zN, zO, zP, zQ, reduceCtorEq, not_true_eq_false, not_false_eq_true, f1, addr_add_eq, Nat.zero_add]) | (first | refine iE ?_ ?_ | refine iD ?_ ?_ | refine iQ ?_ ?_ | refine iV ?_ ?_) <;> intro _ | refine And.intro (by omega) ?_ | refine drawn_q ?_ | fail)
      refine vStore_new rfl rfl (fun u hu => pnC_one x u (by simpa using hu)) ?_
      have l3 := later_alloc w2 (.cells (pnC x).toArray 49)
      have f3 : cellsAt (w2.alloc (.cells (pnC x).toArray 49)) ⟨w2.heap.size, 0, none⟩ 5 = some (pnC x) := Blk.cellsAt (l := pnC x) (Blk.new w2 _ _)
      generalize w2.alloc (.cells (pnC x).toArray 49) = w3 at *
      generalize w2.heap.size = k3 at *
      repeat' (first | (simp (disch := omega) only [push_cast, ↓reduceIte, zA, zG, zB, zH, zI, zC, zJ, zK, zL, zD, zE, zF, zM, zN, zO, zP, zQ, reduceCtorEq, not_true_eq_false, not_false_eq_true, f3]) | (first | refine iE ?_ ?_ | refine iD ?_ ?_ | refine iQ ?_ ?_ | refine iV ?_ ?_) <;> intro _ | refine And.intro (by omega) ?_ | refine drawn_q ?_ | fail)
      refine (hpx w3 (l2.trans l3)).mono ?_
      rintro _ w4 ⟨rfl, l4⟩
      have l24 := l2.trans (l3.trans l4)
      have hO4 := hO.later (l3.trans l4)
      cases hx : p x with
      | true =>
        repeat' (first | (simp (disch := omega) only [push_cast, ↓reduceIte, zA, zG, zB, zH, zI, zC, zJ, zK, zL, zD, zE, zF, zM, zN, zO, zP, zQ, reduceCtorEq, not_true_eq_false, not_false_eq_true]) | (first | refine iE ?_ ?_ | refine iD ?_ ?_ | refine iQ ?_ ?_ | refine iV ?_ ?_) <;> intro _ | refine And.intro (by omega) ?_ | refine drawn_q ?_ | fail)
        refine ⟨rfl, (i, j + 1), by simp (disch := omega) only [push_cast, ↓reduceIte, zA, zG, zB, zH, zI, zC, zJ, zK, zL, zD, zE, zF, zM, zN, zO, zP, zQ, reduceCtorEq, not_true_eq_false, not_false_eq_true], ⟨by dsimp only; omega, by dsimp only; omega, l24, cur, hcl, hO4, ?_, hD'⟩, by dsimp only; omega⟩
        dsimp only
        rw [hstep, if_neg (by simp [hx]), List.append_nil, hT]
      | false =>
        have f4 := cellsAt_later l4 5 f3
        rw [← hcl] at hO4
        obtain ⟨g', hg', hBg, ⟨cs, hb⟩, hcan, ho8, hc8⟩ := OwnR.set pnC_len hO4 (i := i) (by omega) x
        obtain rfl : gr = g' := congrArg Addr.block hg'
        rw [addr_add_eq, Nat.zero_add] at hcan ho8 hc8
        repeat' (first | (simp (disch := omega) only [push_cast, ↓reduceIte, zA, zG, zB, zH, zI, zC, zJ, zK, zL, zD, zE, zF, zM, zN, zO, zP, zQ, reduceCtorEq, not_true_eq_false, not_false_eq_true, f4, addr_add_eq, Nat.zero_add]) | (first | refine iE ?_ ?_ | refine iD ?_ ?_ | refine iQ ?_ ?_ | refine iV ?_ ?_) <;> intro _ | refine And.intro (by omega) ?_ | refine drawn_q ?_ | fail)
        refine ⟨rfl, by intro u hu; exact pnC_one x u (by simpa [Value.cells] using hu), hcan, ?_⟩
        have ex : (Value.agg (pnC x).toArray).cells.toList = pnC x := rfl
        rw [ex]
        rw [hcl] at ho8
        generalize storeAll w4 ⟨gr, i * 5, none⟩ (pnC x) = w8 at *
        repeat' (first | (simp (disch := omega) only [push_cast, ↓reduceIte, zA, zG, zB, zH, zI, zC, zJ, zK, zL, zD, zE, zF, zM, zN, zO, zP, zQ, reduceCtorEq, not_true_eq_false, not_false_eq_true]) | (first | refine iE ?_ ?_ | refine iD ?_ ?_ | refine iQ ?_ ?_ | refine iV ?_ ?_) <;> intro _ | refine And.intro (by omega) ?_ | refine drawn_q ?_ | fail)
        refine ⟨rfl, (i + 1, j + 1), by simp (disch := omega) only [push_cast, ↓reduceIte, zA, zG, zB, zH, zI, zC, zJ, zK, zL, zD, zE, zF, zM, zN, zO, zP, zQ, reduceCtorEq, not_true_eq_false, not_false_eq_true], ⟨by dsimp only; omega, by dsimp only; omega, Chg.later l24 hc8 (by intro q hq; rw [List.mem_singleton.1 hq]; omega), cur.set i x, by simp [hcl], ho8, ?_, ?_⟩, by dsimp only; omega⟩
        · dsimp only
          rw [hstep, if_pos (by simp [hx]), ← hT]
          rw [List.take_set, List.take_add_one, List.getElem?_eq_getElem (show i < cur.length by omega)]
          simp only [Option.toList_some]
          rw [List.set_append_right _ _ (by simp; omega)]
          have : (i - (cur.take i).length) = 0 := by simp; omega
          rw [this]
          simp
        · dsimp only
          rw [List.drop_set_of_lt (by omega)]
          exact hD'
    · have hje : j = es.length := by omega
      subst hje
      rw [List.take_length] at hT
      obtain ⟨g', hg', hBg, _, ⟨cs, hb⟩, hcan⟩ := own_writes hO
      obtain rfl : gr = g' := congrArg Addr.block hg'
      obtain ⟨hz1, hz2⟩ := zeroP_one (es.length - i)
      have em : ((es.length : Int) - (i : Int)).toNat = es.length - i := by omega
      have ea : slAddr (some ⟨gr, 0, none⟩) (i : Int) (c : Int) 5 = some ⟨gr, i * 5, none⟩ := by
        unfold slAddr
        rw [if_neg (by omega), Option.map_some, addr_add_eq, Nat.zero_add, Int.toNat_natCast]
      repeat' (first | (simp (disch := omega) only [push_cast, ↓reduceIte, zA, zG, zB, zH, zI, zC, zJ, zK, zL, zD, zE, zF, zM, zN, zO, zP, zQ, reduceCtorEq, not_true_eq_false, not_false_eq_true]) | (first | refine iE ?_ ?_ | refine iD ?_ ?_ | refine iQ ?_ ?_ | refine iV ?_ ?_) <;> intro _ | refine And.intro (by omega) ?_ | refine drawn_q ?_ | fail)
      refine vX_clear (m := es.length - i) (a := ⟨gr, i * 5, none⟩) (c := ((c : Int) - (i : Int)).toNat) Try.underlying45 (z := zeroPn) ti49 (by simp (disch := omega) only [push_cast, ↓reduceIte, zA, zG, zB, zH, zI, zC, zJ, zK, zL, zD, zE, zF, zM, zN, zO, zP, zQ, reduceCtorEq, not_true_eq_false, not_false_eq_true, em, ea]) (by omega) hz1 (hcan _ _ (by rw [hz2, hcl, ← Nat.add_mul]; exact Nat.mul_le_mul_right _ (by omega))) ?_
      obtain ⟨q1, q2⟩ := own_storeAll (Builtin.zeroCells zeroPn.cells (es.length - i)).toList w2 (i * 5) (cur.map pnC).flatten hO (by rw [hz2, hcl, ← Nat.add_mul]; exact Nat.mul_le_mul_right _ (by omega))
      generalize storeAll w2 ⟨gr, i * 5, none⟩ (Builtin.zeroCells zeroPn.cells (es.length - i)).toList = w3 at *
      have l3 : Later w0 w3 := Chg.later l2 q2 (by intro q hq; rw [List.mem_singleton.1 hq]; omega)
      rw [hcl] at q1
      have hs := SlN.preN (SlN.of_own q1) (k := i) (by omega)
      rw [wrs_take, rec_take pnC_len, hT] at hs
      have hlen : (es.filter (fun x => !p x)).length = i := by rw [← hT, List.length_take]; omega
      have hRec : RecS pnC 5 w3 (.slice (some ⟨gr, 0, none⟩) i c) (es.filter (fun x => !p x)) := by
        unfold RecS
        rw [hlen]
        exact hs
      repeat' (first | (simp (disch := omega) only [push_cast, ↓reduceIte, zA, zG, zB, zH, zI, zC, zJ, zK, zL, zD, zE, zF, zM, zN, zO, zP, zQ, reduceCtorEq, not_true_eq_false, not_false_eq_true]) | (first | refine iE ?_ ?_ | refine iD ?_ ?_ | refine iQ ?_ ?_ | refine iV ?_ ?_) <;> intro _ | refine And.intro (by omega) ?_ | refine drawn_q ?_ | fail)
      first | exact ⟨hRec, l3⟩ | exact l3
theorem choose2_c (a b : PN) (w : World) : FnC Try.prog 49 #[.agg (pnC a).toArray, .agg (pnC b).toArray] w fun r w' => r = .int .i64 (cmpN a b) ∧ Later w w' := by
  refine enter49 _ _ ?_
  unfold B49
  have eca : (Value.agg (pnC a).toArray).cells = (pnC a).toArray := rfl
  have ecb : (Value.agg (pnC b).toArray).cells = (pnC b).toArray := rfl
  have l1 := later_alloc w (.cells (pnC a).toArray 49)
  have s1 : (w.alloc (.cells (pnC a).toArray 49)).heap.size = w.heap.size + 1 := World.size_alloc _ _
  have B1 := Blk.new w (pnC a).toArray 49
  have l2 := later_alloc (w.alloc (.cells (pnC a).toArray 49)) (.cells (pnC b).toArray 49)
  have B2 := Blk.new (w.alloc (.cells (pnC a).toArray 49)) (pnC b).toArray 49
  rw [s1] at B2
  have B1 := B1.chg (Chg.of_later (ks := []) l2) (by simp)
  repeat' (first | (simp (disch := omega) only [push_cast, ↓reduceIte, zA, zG, zB, zH, zI, zC, zJ, zK, zL, zD, zE, zF, zM, zN, zO, zP, zQ, reduceCtorEq, not_true_eq_false, not_false_eq_true, eca, ecb, s1]) | (first | refine iE ?_ ?_ | refine iD ?_ ?_ | refine iQ ?_ ?_ | refine iV ?_ ?_) <;> intro _ | refine And.intro (by omega) ?_ | fail)
  have l12 := l1.trans l2
  generalize (w.alloc (.cells (pnC a).toArray 49)).alloc (.cells (pnC b).toArray 49) = w1 at *
  generalize hkf : w.heap.size = kf at *
  obtain ⟨_, _, _, a3, a4⟩ := pnB B1
  obtain ⟨_, _, _, b3, b4⟩ := pnB B2
  refine drawn_k 9 ?_
  repeat' (first | (simp (disch := omega) only [push_cast, ↓reduceIte, zA, zG, zB, zH, zI, zC, zJ, zK, zL, zD, zE, zF, zM, zN, zO, zP, zQ, reduceCtorEq, not_true_eq_false, not_false_eq_true, a3, a4, b3, b4, addr_add_eq, Nat.zero_add]) | (first | refine iE ?_ ?_ | refine iD ?_ ?_ | refine iQ ?_ ?_ | refine iV ?_ ?_) <;> intro _ | refine And.intro (by omega) ?_ | fail)
  refine NFn.fix hb51 (v := .int .i64 (cI a.rows b.rows)) (fun w' _ => (cmpI_c a.rows b.rows w').mono fun v w'' h => ⟨h.1, h.2 ▸ Later.refl _⟩) ?_
  repeat' (first | (simp (disch := omega) only [push_cast, ↓reduceIte, zA, zG, zB, zH, zI, zC, zJ, zK, zL, zD, zE, zF, zM, zN, zO, zP, zQ, reduceCtorEq, not_true_eq_false, not_false_eq_true, a3, a4, b3, b4, addr_add_eq, Nat.zero_add]) | (first | refine iE ?_ ?_ | refine iD ?_ ?_ | refine iQ ?_ ?_ | refine iV ?_ ?_) <;> intro _ | refine And.intro (by omega) ?_ | fail)
  intro w2 l2
  repeat' (first | (simp (disch := omega) only [push_cast, ↓reduceIte, zA, zG, zB, zH, zI, zC, zJ, zK, zL, zD, zE, zF, zM, zN, zO, zP, zQ, reduceCtorEq, not_true_eq_false, not_false_eq_true]) | (first | refine iE ?_ ?_ | refine iD ?_ ?_ | refine iQ ?_ ?_ | refine iV ?_ ?_) <;> intro _ | refine And.intro (by omega) ?_ | fail)
  refine (cmpI_c a.proj b.proj w2).mono ?_
  rintro _ w0 ⟨rfl, h0⟩; obtain rfl := h0.symm
  repeat' (first | (simp (disch := omega) only [push_cast, ↓reduceIte, zA, zG, zB, zH, zI, zC, zJ, zK, zL, zD, zE, zF, zM, zN, zO, zP, zQ, reduceCtorEq, not_true_eq_false, not_false_eq_true]) | (first | refine iE ?_ ?_ | refine iD ?_ ?_ | refine iQ ?_ ?_ | refine iV ?_ ?_) <;> intro _ | refine And.intro (by omega) ?_ | fail)
  have hsl : Sl (w2.alloc (.cells #[.int .i64 (cI a.rows b.rows), .int .i64 (cI a.proj b.proj)] 3)) (.slice (some ⟨w2.heap.size, 0, none⟩) 2 2) (([cI a.rows b.rows, cI a.proj b.proj] : List Int).map i64v) := Sl.of_blk (xs := [.int .i64 (cI a.rows b.rows), .int .i64 (cI a.proj b.proj)]) (Blk.new w2 _ _) rfl (by unfold maxLen; omega)
  have l3 := later_alloc w2 (.cells #[.int .i64 (cI a.rows b.rows), .int .i64 (cI a.proj b.proj)] 3)
  have ec : (if a.proj < b.proj then (-1 : Int) else if b.proj < a.proj then 1 else 0) = cI a.proj b.proj := rfl
  rw [ec]
  refine (cmpOr_c _ _ _ _ hsl).mono ?_
  rintro _ w0 ⟨rfl, h0⟩; obtain rfl := h0.symm
  unfold cmpN
  repeat' (first | (simp (disch := omega) only [push_cast, ↓reduceIte, zA, zG, zB, zH, zI, zC, zJ, zK, zL, zD, zE, zF, zM, zN, zO, zP, zQ, reduceCtorEq, not_true_eq_false, not_false_eq_true]) | (first | refine iE ?_ ?_ | refine iD ?_ ?_ | refine iQ ?_ ?_ | refine iV ?_ ?_) <;> intro _ | refine And.intro (by omega) ?_ | refine drawn_q ?_ | fail)
  first | exact ⟨rfl, ((l12.trans l2).trans l3)⟩ | exact ((l12.trans l2).trans l3)
set_option maxHeartbeats 1000000 in
theorem minFunc_c (v : Value) (m : PN) (l : List PN) (w : World) (h : RecS pnC 5 w v (m :: l)) : FnC Try.prog 48 #[v, .func (.func 49) #[] #[]] w fun r w' => r = .agg (pnC (minN m l)).toArray ∧ Later w w' := by
  obtain ⟨o, c, rfl, g1, g2⟩ := h.slice
  rw [List.length_cons] at g1 h
  refine enter48 _ _ ?_
  unfold B48
  have l1 := later_alloc w (.cells #[.int .i64 0, .int .i64 0, .int .i64 0, .int .i64 0, .int .i64 0] 49)
  have s1 : (w.alloc (.cells #[.int .i64 0, .int .i64 0, .int .i64 0, .int .i64 0, .int .i64 0] 49)).heap.size = w.heap.size + 1 := World.size_alloc _ _
  have B1 := Blk.new w #[.int .i64 0, .int .i64 0, .int .i64 0, .int .i64 0, .int .i64 0] 49
  have d1 : decide ((((l.length + 1 : Nat)) : Int) < 1) = false := decide_eq_false (by omega)
  have d1' : decide (((l.length : Int) + 1) < 1) = false := decide_eq_false (by omega)
  repeat' (first | (simp (disch := omega) only [push_cast, ↓reduceIte, zA, zG, zB, zH, zI, zC, zJ, zK, zL, zD, zE, zF, zM, zN, zO, zP, zQ, reduceCtorEq, not_true_eq_false, not_false_eq_true, d1, d1', List.length_cons]) | (first | refine iE ?_ ?_ | refine iD ?_ ?_ | refine iQ ?_ ?_ | refine iV ?_ ?_) <;> intro _ | refine And.intro (by omega) ?_ | fail)
  generalize w.alloc (.cells #[.int .i64 0, .int .i64 0, .int .i64 0, .int .i64 0, .int .i64 0] 49) = w1 at *
  have hz := RecS.at pnC_len (h.later l1) (i := 0) (by simp)
  obtain ⟨a, rfl, f0⟩ := hz
  rw [Nat.zero_mul, addr_add_zero, List.getElem_cons_zero] at f0
  repeat' (first | (simp (disch := omega) only [push_cast, ↓reduceIte, zA, zG, zB, zH, zI, zC, zJ, zK, zL, zD, zE, zF, zM, zN, zO, zP, zQ, reduceCtorEq, not_true_eq_false, not_false_eq_true, f0, addr_add_zero]) | (first | refine iE ?_ ?_ | refine iD ?_ ?_ | refine iQ ?_ ?_ | refine iV ?_ ?_) <;> intro _ | refine And.intro (by omega) ?_ | fail)
  refine vStore_new rfl rfl (fun u hu => pnC_one m u (by simpa using hu)) ?_
  have l2 := later_alloc w1 (.cells (pnC m).toArray 49)
  have B2 := Blk.new w1 (pnC m).toArray 49
  rw [s1] at B2
  generalize hkw : w.heap.size = kf at *
  rw [s1]
  generalize w1.alloc (.cells (pnC m).toArray 49) = w2 at *
  have B1 := B1.chg (Chg.of_later (ks := []) l2) (by simp)
  have l12 := l1.trans l2
  repeat' (first | (simp (disch := omega) only [push_cast, ↓reduceIte, zA, zG, zB, zH, zI, zC, zJ, zK, zL, zD, zE, zF, zM, zN, zO, zP, zQ, reduceCtorEq, not_true_eq_false, not_false_eq_true]) | (first | refine iE ?_ ?_ | refine iD ?_ ?_ | refine iQ ?_ ?_ | refine iV ?_ ?_) <;> intro _ | refine And.intro (by omega) ?_ | fail)
  refine vc_loop W48_0 (fun i : Nat => [(6, .int .i64 ((i : Int) + 1))]) (fun i w' => i ≤ l.length ∧ Later w w' ∧ Blk w' kf #[.int .i64 0, .int .i64 0, .int .i64 0, .int .i64 0, .int .i64 0] 49 ∧ Blk w' (kf + 1) (pnC (minN m (l.take i))).toArray 49) (fun i => l.length - i) 0 (by decide) ?_ ?_ ?_
  · simp (disch := omega) only [push_cast, ↓reduceIte, zA, zG, zB, zH, zI, zC, zJ, zK, zL, zD, zE, zF, zM, zN, zO, zP, zQ, reduceCtorEq, not_true_eq_false, not_false_eq_true]
    try rfl
  · exact ⟨Nat.zero_le _, l12, B1, B2⟩
  rintro i uu w3 ⟨hi, l3, C1, C2⟩
  have e3 : cellsAt w3 ⟨kf + 1, 0, none⟩ 5 = some (pnC (minN m (l.take i))) := Blk.cellsAt (l := pnC (minN m (l.take i))) C2
  by_cases hil : i < l.length
  · have hd : decide ((i : Int) + 1 < ((l.length : Int) + 1)) = true := decide_eq_true (by omega)
    have hd' : decide ((i : Int) + 1 < (((l.length + 1 : Nat)) : Int)) = true := decide_eq_true (by omega)
    have hg := RecS.get pnC_len (h.later l3) (i := i + 1) (by simp; omega)
    rw [List.getElem_cons_succ] at hg
    have t1 : ((i : Int) + 1).toNat = i + 1 := by omega
    have hst : minN m (l.take (i + 1)) = if ltN l[i] (minN m (l.take i)) then l[i] else minN m (l.take i) := by
      rw [List.take_succ_eq_append_getElem hil, minN_snoc]
    generalize l[i] = x at *
    generalize minN m (l.take i) = M at *
    repeat' (first | (simp (disch := omega) only [push_cast, ↓reduceIte, zA, zG, zB, zH, zI, zC, zJ, zK, zL, zD, zE, zF, zM, zN, zO, zP, zQ, reduceCtorEq, not_true_eq_false, not_false_eq_true, hd, hd', hg, e3, t1, List.length_cons]) | (first | refine iE ?_ ?_ | refine iD ?_ ?_ | refine iQ ?_ ?_ | refine iV ?_ ?_) <;> intro _ | refine And.intro (by omega) ?_ | fail)
    refine drawn_q ?_
    repeat' (first | (simp (disch := omega) only [push_cast, ↓reduceIte, zA, zG, zB, zH, zI, zC, zJ, zK, zL, zD, zE, zF, zM, zN, zO, zP, zQ, reduceCtorEq, not_true_eq_false, not_false_eq_true, hg, e3, t1, List.length_cons]) | (first | refine iE ?_ ?_ | refine iD ?_ ?_ | refine iQ ?_ ?_ | refine iV ?_ ?_) <;> intro _ | refine And.intro (by omega) ?_ | fail)
    refine QFn.of hb49 (v := .int .i64 (cmpN x M)) (fun w' _ => choose2_c x M w') ?_
    have hlt := cmpN_lt x M
    repeat' (first | (simp (disch := omega) only [push_cast, ↓reduceIte, zA, zG, zB, zH, zI, zC, zJ, zK, zL, zD, zE, zF, zM, zN, zO, zP, zQ, reduceCtorEq, not_true_eq_false, not_false_eq_true, hlt]) | (first | refine iE ?_ ?_ | refine iD ?_ ?_ | refine iQ ?_ ?_ | refine iV ?_ ?_) <;> intro _ | refine And.intro (by omega) ?_ | fail)
    intro w4 l4
    have hg4 := cellsAt_later l4 5 hg
    have C1 := C1.chg (Chg.of_later (ks := []) l4) (by simp)
    have C2 := C2.chg (Chg.of_later (ks := []) l4) (by simp)
    cases hc : ltN x M with
    | true =>
      rw [hc, if_pos rfl] at hst
      repeat' (first | (simp (disch := omega) only [push_cast, ↓reduceIte, zA, zG, zB, zH, zI, zC, zJ, zK, zL, zD, zE, zF, zM, zN, zO, zP, zQ, reduceCtorEq, not_true_eq_false, not_false_eq_true, hg4, t1, List.length_cons]) | (first | refine iE ?_ ?_ | refine iD ?_ ?_ | refine iQ ?_ ?_ | refine iV ?_ ?_) <;> intro _ | refine And.intro (by omega) ?_ | fail)
      refine vStore_blk (l := pnC M) (xs := pnC x) C2 rfl rfl (pnC_one _) ?_
      intro w5 C5 c5
      have l5 := Chg.later (l3.trans l4) c5 (by intro j hj; rw [List.mem_singleton.1 hj, hkw]; omega)
      repeat' (first | (simp (disch := omega) only [push_cast, ↓reduceIte, zA, zG, zB, zH, zI, zC, zJ, zK, zL, zD, zE, zF, zM, zN, zO, zP, zQ, reduceCtorEq, not_true_eq_false, not_false_eq_true]) | (first | refine iE ?_ ?_ | refine iD ?_ ?_ | refine iQ ?_ ?_ | refine iV ?_ ?_) <;> intro _ | refine And.intro (by omega) ?_ | fail)
      exact ⟨rfl, i + 1, by simp (disch := omega) only [push_cast, ↓reduceIte, zA, zG, zB, zH, zI, zC, zJ, zK, zL, zD, zE, zF, zM, zN, zO, zP, zQ, reduceCtorEq, not_true_eq_false, not_false_eq_true], ⟨by omega, l5, C1.chg c5 (by simp), by rw [hst]; exact C5⟩, by dsimp only; omega⟩
    | false =>
      rw [hc, if_neg (by simp)] at hst
      repeat' (first | (simp (disch := omega) only [push_cast, ↓reduceIte, zA, zG, zB, zH, zI, zC, zJ, zK, zL, zD, zE, zF, zM, zN, zO, zP, zQ, reduceCtorEq, not_true_eq_false, not_false_eq_true]) | (first | refine iE ?_ ?_ | refine iD ?_ ?_ | refine iQ ?_ ?_ | refine iV ?_ ?_) <;> intro _ | refine And.intro (by omega) ?_ | fail)
      exact ⟨rfl, i + 1, by simp (disch := omega) only [push_cast, ↓reduceIte, zA, zG, zB, zH, zI, zC, zJ, zK, zL, zD, zE, zF, zM, zN, zO, zP, zQ, reduceCtorEq, not_true_eq_false, not_false_eq_true], ⟨by omega, l3.trans l4, C1, by rw [hst]; exact C2⟩, by dsimp only; omega⟩
  · have hd : decide ((i : Int) + 1 < ((l.length : Int) + 1)) = false := decide_eq_false (by omega)
    have hd' : decide ((i : Int) + 1 < (((l.length + 1 : Nat)) : Int)) = false := decide_eq_false (by omega)
    rw [List.take_of_length_le (by omega)] at e3
    generalize minN m l = M at *
    repeat' (first | (simp (disch := omega) only [push_cast, ↓reduceIte, zA, zG, zB, zH, zI, zC, zJ, zK, zL, zD, zE, zF, zM, zN, zO, zP, zQ, reduceCtorEq, not_true_eq_false, not_false_eq_true, hd, hd', e3, List.length_cons]) | (first | refine iE ?_ ?_ | refine iD ?_ ?_ | refine iQ ?_ ?_ | refine iV ?_ ?_) <;> intro _ | refine And.intro (by omega) ?_ | fail)
    refine vStore_blk (l := [.int .i64 0, .int .i64 0, .int .i64 0, .int .i64 0, .int .i64 0]) (xs := pnC M) C1 rfl rfl (pnC_one _) ?_
    intro w5 C5 c5
    have l5 := Chg.later l3 c5 (by intro j hj; rw [List.mem_singleton.1 hj, hkw]; omega)
    repeat' (first | (simp (disch := omega) only [push_cast, ↓reduceIte, zA, zG, zB, zH, zI, zC, zJ, zK, zL, zD, zE, zF, zM, zN, zO, zP, zQ, reduceCtorEq, not_true_eq_false, not_false_eq_true]) | (first | refine iE ?_ ?_ | refine iD ?_ ?_ | refine iQ ?_ ?_ | refine iV ?_ ?_) <;> intro _ | refine And.intro (by omega) ?_ | fail)
    refine resK_cells (s := 5) (by simp (disch := omega) only [push_cast, ↓reduceIte, zA, zG, zB, zH, zI, zC, zJ, zK, zL, zD, zE, zF, zM, zN, zO, zP, zQ, reduceCtorEq, not_true_eq_false, not_false_eq_true]) (by rw [Try.underlying49]; exact sz49) (Blk.cellsAt (l := pnC M) C5) ?_
    repeat' (first | (simp (disch := omega) only [push_cast, ↓reduceIte, zA, zG, zB, zH, zI, zC, zJ, zK, zL, zD, zE, zF, zM, zN, zO, zP, zQ, reduceCtorEq, not_true_eq_false, not_false_eq_true]) | (first | refine iE ?_ ?_ | refine iD ?_ ?_ | refine iQ ?_ ?_ | refine iV ?_ ?_) <;> intro _ | refine And.intro (by omega) ?_ | refine drawn_q ?_ | fail)
    first | exact ⟨rfl, l5⟩ | exact l5
end Go.Proofs.Ytnofalhkapmcnaa
end
section
set_option linter.unusedSimpArgs false
namespace Go.Vc
open Go Go.RowKit
/-- What a call owns stays, if other blocks change. -/
theorem own_off {w w' : World} {base s n : Nat} {e : TypeId} {v : Value} {xs : List Value} {ks : List Nat} (h : w.ownsRow base e s v n xs) (g : Chg w w' ks) (hk : ∀ k ∈ ks, v.ownBlock ≠ some k) : w'.ownsRow base e s v n xs := by
  obtain ⟨h0, h⟩ := h
  refine ⟨h0, ?_⟩
  rcases h with h | ⟨b, cap, cur, hv, hb, hh, h1, h2, h3, h4⟩
  · exact .inl h
  · refine .inr ⟨b, cap, cur, hv, hb, ?_, h1, h2, h3, h4⟩
    have hB : Blk w b cur e := hh
    exact hB.chg g fun hm => hk b hm (by rw [hv]; rfl)
def ownRows (x : PN) (fl : List SD) : Int := fl.foldl (fun r f => if f.tier = x.tier ∧ f.proj = -1 then f.rows else r) x.rows
def projs (x : PN) (fl : List SD) : List PN := (fl.filter fun f => decide (f.tier = x.tier ∧ f.proj ≠ -1)).map fun f => { x with proj := f.proj, rows := f.rows }
def cand (x : PN) (fl : List SD) : List PN := { x with rows := ownRows x fl } :: projs x fl
theorem cand_skip {x : PN} {fl : List SD} {f : SD} (h : f.tier ≠ x.tier) : cand x (fl ++ [f]) = cand x fl := by
  unfold cand ownRows projs
  rw [List.foldl_append, List.filter_append, List.map_append]
  simp [h]
theorem cand_own {x : PN} {fl : List SD} {f : SD} (h : f.tier = x.tier) (hp : f.proj = -1) : cand x (fl ++ [f]) = { x with rows := f.rows } :: projs x fl := by
  unfold cand ownRows projs
  rw [List.foldl_append, List.filter_append, List.map_append]
  simp [h, hp]
theorem cand_proj {x : PN} {fl : List SD} {f : SD} (h : f.tier = x.tier) (hp : f.proj ≠ -1) : cand x (fl ++ [f]) = cand x fl ++ [{ x with proj := f.proj, rows := f.rows }] := by
  unfold cand ownRows projs
  rw [List.foldl_append, List.filter_append, List.map_append]
  simp [h, hp]
theorem cand_len (x : PN) (fl : List SD) : (cand x fl).length ≤ fl.length + 1 := by
  unfold cand projs
  rw [List.length_cons, List.length_map]
  have := List.length_filter_le (fun f : SD => decide (f.tier = x.tier ∧ f.proj ≠ -1)) fl
  omega
end Go.Vc
namespace Go.Proofs.Ytnofalhkapmcnaa
open Go.Vc Go.Key Go.Bkt
set_option maxRecDepth 100000
theorem sdB {w : World} {b : Nat} {f : SD} (B : Blk w b (sdC f).toArray 57) : w.cell? ⟨b, 1, none⟩ = some (.int .i64 f.tier) ∧ w.cell? ⟨b, 2, none⟩ = some (.int .i64 f.proj) ∧ w.cell? ⟨b, 3, none⟩ = some (.int .i64 f.rows) := ⟨B.cell 1, B.cell 2, B.cell 3⟩
def IC (kf ky : Nat) (f : SD) (x : PN) (w1 : World) (v5 v13 : Value) (b0 b1 b2 b3 b4 b5 b6 b7 : Bool) (s5 s7 s8 s13 s18 s19 s20 s21 s22 s23 : Value) (w : World) : Prop :=
  (s5 = v5 ∧ s7 = pt kf ∧ s8 = pt ky ∧ s13 = v13) ∧ Chg w1 w [ky] ∧ Blk w ky (pnC ⟨x.fr, x.to, x.tier, if b5 = true then f.proj else x.proj, if b7 = true then f.rows else x.rows⟩).toArray 49 ∧
  (b0 = true → s18 = .pointer (some ⟨kf, 2, none⟩)) ∧ (b1 = true → s19 = .int .i64 f.proj) ∧ (b2 = true → s20 = .pointer (some ⟨kf, 3, none⟩)) ∧ (b3 = true → s21 = .int .i64 f.rows) ∧ (b4 = true → s22 = .pointer (some ⟨ky, 3, none⟩)) ∧ (b6 = true → s23 = .pointer (some ⟨ky, 4, none⟩))
set_option maxHeartbeats 2000000 in
theorem reg46_c {w1 : World} {kf ky : Nat} {f : SD} {x : PN} {K : Env → World → Prop} {σ : Env} (e7 : σ 7 = pt kf) (e8 : σ 8 = pt ky) (Bf : Blk w1 kf (sdC f).toArray 57) (By : Blk w1 ky (pnC x).toArray 49)
    (hK : ∀ (σ1 : Env) (w2 : World), σ1 5 = σ 5 → σ1 8 = pt ky → σ1 13 = σ 13 → Chg w1 w2 [ky] → Blk w2 ky (pnC { x with proj := f.proj, rows := f.rows }).toArray 49 → K σ1 w2) :
    anyA Try.prog r46_6 [[], [0], [], [2], [0, 1], [4, 1, 0, 1], [0, 1, 2, 3, 4, 5], [6, 3, 5, 0, 1, 2, 3, 4, 5]] K σ w1 := by
  have hne := blk_ne Bf By (by decide)
  refine ⟨fun D σ1 w => IC kf ky f x w1 (σ 5) (σ 13) (D 0) (D 1) (D 2) (D 3) (D 4) (D 5) (D 6) (D 7) (σ1 5) (σ1 7) (σ1 8) (σ1 13) (σ1 18) (σ1 19) (σ1 20) (σ1 21) (σ1 22) (σ1 23) w, ?_, ?_, ?_⟩
  · intro w' hl
    exact ⟨⟨rfl, e7, e8, rfl⟩, Chg.of_later hl, By.chg (Chg.of_later (ks := []) hl) (by simp), (fun h => by cases h), (fun h => by cases h), (fun h => by cases h), (fun h => by cases h), (fun h => by cases h), (fun h => by cases h)⟩
  · intro D σ1 w2 j o hcl hI hoj hDj hwt
    obtain ⟨⟨g5, g7, g8, g13⟩, hc, hB, k0, k1, k2, k3, k4, k6⟩ := hI
    obtain ⟨c1, c2, c3⟩ := sdB (Bf.chg hc (by simpa using hne))
    match j, hoj with
    | 0, hoj =>
      obtain rfl := Option.some.inj hoj
      repeat' (first | (simp (disch := omega) only [push_cast, ↓reduceIte, zA, zG, zB, zH, zI, zC, zJ, zK, zL, zD, zE, zF, zM, zN, zO, zP, zQ, reduceCtorEq, not_true_eq_false, not_false_eq_true, g7, addr_add_eq, Nat.zero_add]) | (first | refine iE ?_ ?_ | refine iD ?_ ?_ | refine iQ ?_ ?_ | refine iV ?_ ?_) <;> intro _ | refine And.intro (by omega) ?_ | refine drawn_q ?_ | fail)
      exact ⟨⟨g5, rfl, g8, g13⟩, hc, hB, fun _ => rfl, k1, k2, k3, k4, k6⟩
    | 1, hoj =>
      obtain rfl := Option.some.inj hoj
      have h18 := k0 (waits_at' hwt rfl (by simp))
      repeat' (first | (simp (disch := omega) only [push_cast, ↓reduceIte, zA, zG, zB, zH, zI, zC, zJ, zK, zL, zD, zE, zF, zM, zN, zO, zP, zQ, reduceCtorEq, not_true_eq_false, not_false_eq_true, h18, c2]) | (first | refine iE ?_ ?_ | refine iD ?_ ?_ | refine iQ ?_ ?_ | refine iV ?_ ?_) <;> intro _ | refine And.intro (by omega) ?_ | refine drawn_q ?_ | fail)
      exact ⟨⟨g5, g7, g8, g13⟩, hc, hB, fun _ => rfl, fun _ => rfl, k2, k3, k4, k6⟩
    | 2, hoj =>
      obtain rfl := Option.some.inj hoj
      repeat' (first | (simp (disch := omega) only [push_cast, ↓reduceIte, zA, zG, zB, zH, zI, zC, zJ, zK, zL, zD, zE, zF, zM, zN, zO, zP, zQ, reduceCtorEq, not_true_eq_false, not_false_eq_true, g7, addr_add_eq, Nat.zero_add]) | (first | refine iE ?_ ?_ | refine iD ?_ ?_ | refine iQ ?_ ?_ | refine iV ?_ ?_) <;> intro _ | refine And.intro (by omega) ?_ | refine drawn_q ?_ | fail)
      exact ⟨⟨g5, rfl, g8, g13⟩, hc, hB, k0, k1, fun _ => rfl, k3, k4, k6⟩
    | 3, hoj =>
      obtain rfl := Option.some.inj hoj
      have h20 := k2 (waits_at' hwt rfl (by simp))
      repeat' (first | (simp (disch := omega) only [push_cast, ↓reduceIte, zA, zG, zB, zH, zI, zC, zJ, zK, zL, zD, zE, zF, zM, zN, zO, zP, zQ, reduceCtorEq, not_true_eq_false, not_false_eq_true, h20, c3]) | (first | refine iE ?_ ?_ | refine iD ?_ ?_ | refine iQ ?_ ?_ | refine iV ?_ ?_) <;> intro _ | refine And.intro (by omega) ?_ | refine drawn_q ?_ | fail)
      exact ⟨⟨g5, g7, g8, g13⟩, hc, hB, k0, k1, fun _ => rfl, fun _ => rfl, k4, k6⟩
    | 4, hoj =>
      obtain rfl := Option.some.inj hoj
      repeat' (first | (simp (disch := omega) only [push_cast, ↓reduceIte, zA, zG, zB, zH, zI, zC, zJ, zK, zL, zD, zE, zF, zM, zN, zO, zP, zQ, reduceCtorEq, not_true_eq_false, not_false_eq_true, g8, addr_add_eq, Nat.zero_add]) | (first | refine iE ?_ ?_ | refine iD ?_ ?_ | refine iQ ?_ ?_ | refine iV ?_ ?_) <;> intro _ | refine And.intro (by omega) ?_ | refine drawn_q ?_ | fail)
      exact ⟨⟨g5, g7, rfl, g13⟩, hc, hB, k0, k1, k2, k3, fun _ => rfl, k6⟩
    | 5, hoj =>
      obtain rfl := Option.some.inj hoj
      have h22 := k4 (waits_at' hwt rfl (i := 4) (by simp))
      have h19 := k1 (waits_at' hwt rfl (i := 1) (by simp))
      obtain ⟨_, _, _, g3, _⟩ := pnB hB
      have fz := hB.frozen 3
      have hB2 := hB.set 3 (.int .i64 f.proj)
      have hc2 : Chg w2 (w2.setCell ⟨ky, 3, none⟩ (.int .i64 f.proj)) [ky] := chg_setCell w2 (by simp) _
      repeat' (first | (simp (disch := omega) only [push_cast, ↓reduceIte, zA, zG, zB, zH, zI, zC, zJ, zK, zL, zD, zE, zF, zM, zN, zO, zP, zQ, reduceCtorEq, not_true_eq_false, not_false_eq_true, h22, h19, g3, fz]) | (first | refine iE ?_ ?_ | refine iD ?_ ?_ | refine iQ ?_ ?_ | refine iV ?_ ?_) <;> intro _ | refine And.intro (by omega) ?_ | refine drawn_q ?_ | fail)
      generalize w2.setCell ⟨ky, 3, none⟩ (.int .i64 f.proj) = w3 at *
      exact ⟨⟨g5, g7, g8, g13⟩, hc.trans hc2, hB2, k0, fun _ => by first | exact h19 | rfl, k2, k3, fun _ => by first | exact h22 | rfl, k6⟩
    | 6, hoj =>
      obtain rfl := Option.some.inj hoj
      repeat' (first | (simp (disch := omega) only [push_cast, ↓reduceIte, zA, zG, zB, zH, zI, zC, zJ, zK, zL, zD, zE, zF, zM, zN, zO, zP, zQ, reduceCtorEq, not_true_eq_false, not_false_eq_true, g8, addr_add_eq, Nat.zero_add]) | (first | refine iE ?_ ?_ | refine iD ?_ ?_ | refine iQ ?_ ?_ | refine iV ?_ ?_) <;> intro _ | refine And.intro (by omega) ?_ | refine drawn_q ?_ | fail)
      exact ⟨⟨g5, g7, rfl, g13⟩, hc, hB, k0, k1, k2, k3, k4, fun _ => rfl⟩
    | 7, hoj =>
      obtain rfl := Option.some.inj hoj
      have h23 := k6 (waits_at' hwt rfl (i := 6) (by simp))
      have h21 := k3 (waits_at' hwt rfl (i := 3) (by simp))
      obtain ⟨_, _, _, _, g4⟩ := pnB hB
      have fz := hB.frozen 4
      have hB2 := hB.set 4 (.int .i64 f.rows)
      have hc2 : Chg w2 (w2.setCell ⟨ky, 4, none⟩ (.int .i64 f.rows)) [ky] := chg_setCell w2 (by simp) _
      repeat' (first | (simp (disch := omega) only [push_cast, ↓reduceIte, zA, zG, zB, zH, zI, zC, zJ, zK, zL, zD, zE, zF, zM, zN, zO, zP, zQ, reduceCtorEq, not_true_eq_false, not_false_eq_true, h23, h21, g4, fz]) | (first | refine iE ?_ ?_ | refine iD ?_ ?_ | refine iQ ?_ ?_ | refine iV ?_ ?_) <;> intro _ | refine And.intro (by omega) ?_ | refine drawn_q ?_ | fail)
      generalize w2.setCell ⟨ky, 4, none⟩ (.int .i64 f.rows) = w3 at *
      exact ⟨⟨g5, g7, g8, g13⟩, hc.trans hc2, hB2, k0, k1, k2, fun _ => by first | exact h21 | rfl, k4, fun _ => by first | exact h23 | rfl⟩
    | n + 8, hoj => exact absurd hoj (by simp [r46_6])
  · intro D σ1 w2 hI hall
    obtain ⟨⟨g5, g7, g8, g13⟩, hc, hB, _⟩ := hI
    have hall : ∀ j, j < 8 → D j = true := hall
    rw [hall 5 (by decide), hall 7 (by decide)] at hB
    exact hK σ1 w2 g5 g8 g13 hc hB
set_option maxHeartbeats 4000000 in
theorem candidates_c (x : PN) (fv : Value) (fl : List SD) (w : World) (hf : RecS sdC 4 w fv fl) (hfo : ∀ f ∈ fl, f.Ok) (hfl : fl.length ≤ 1000) : FnC Try.prog 46 #[.agg (pnC x).toArray, fv] w fun v w' => OwnN w' w.heap.size v (cand x fl) ∧ Later w w' := by
  obtain ⟨fo, fc, rfl, hf1, hf2⟩ := hf.slice
  refine enter46 _ _ ?_
  unfold B46
  have eca : (Value.agg (pnC x).toArray).cells = (pnC x).toArray := rfl
  have l1 := later_alloc w (.cells (pnC x).toArray 49)
  have B1 := Blk.new w (pnC x).toArray 49
  have f1 : cellsAt (w.alloc (.cells (pnC x).toArray 49)) ⟨w.heap.size, 0, none⟩ 5 = some (pnC x) := Blk.cellsAt (l := pnC x) B1
  repeat' (first | (simp (disch := omega) only [push_cast, ↓reduceIte, zA, zG, zB, zH, zI, zC, zJ, zK, zL, zD, zE, zF, zM, zN, zO, zP, zQ, reduceCtorEq, not_true_eq_false, not_false_eq_true, eca, f1]) | (first | refine iE ?_ ?_ | refine iD ?_ ?_ | refine iQ ?_ ?_ | refine iV ?_ ?_) <;> intro _ | refine And.intro (by omega) ?_ | fail)
  generalize w.alloc (.cells (pnC x).toArray 49) = w1 at *
  have l2 := later_alloc w1 (.cells (pnC x).toArray 49)
  have ho2 : OwnN (w1.alloc (.cells (pnC x).toArray 49)) w1.heap.size (.slice (some ⟨w1.heap.size, 0, none⟩) 1 1) (cand x []) := own_lit w1 (pnC x) _ 5 1 rfl (by unfold maxLen; omega) (Nat.le_refl _)
  generalize w1.alloc (.cells (pnC x).toArray 49) = w2 at *
  generalize hkx : w.heap.size = kx at *
  have hb : kx ≤ w1.heap.size := by rw [← hkx]; exact l1.size
  refine vc_loop W46_0 (fun p : Nat × Value => [(5, p.2), (13, .int .i64 (p.1 : Int))]) (fun p w' => p.1 ≤ fl.length ∧ Later w1 w' ∧ OwnN w' w1.heap.size p.2 (cand x (fl.take p.1))) (fun p => fl.length - p.1) (0, .slice (some ⟨w1.heap.size, 0, none⟩) 1 1) (by decide) ?_ ?_ ?_
  · simp (disch := omega) only [push_cast, ↓reduceIte, zA, zG, zB, zH, zI, zC, zJ, zK, zL, zD, zE, zF, zM, zN, zO, zP, zQ, reduceCtorEq, not_true_eq_false, not_false_eq_true]
    try rfl
  · exact ⟨Nat.zero_le _, l2, by simpa using ho2⟩
  rintro ⟨i, ov⟩ uu w3 ⟨hi, l3, ho⟩
  dsimp only at hi ho ⊢
  by_cases hik : i < fl.length
  · have hd2 : decide ((i : Int) < (fl.length : Int)) = true := decide_eq_true (by omega)
    obtain ⟨a, rfl, fa⟩ := RecS.at sdC_len (hf.later (l1.trans l3)) hik
    have hfok := hfo _ (List.getElem_mem hik)
    have htk : fl.take (i + 1) = fl.take i ++ [fl[i]] := List.take_succ_eq_append_getElem hik
    have hcl := cand_len x (fl.take i)
    rw [List.length_take] at hcl
    generalize fl[i] = f at *
    repeat' (first | (simp (disch := omega) only [push_cast, ↓reduceIte, zA, zG, zB, zH, zI, zC, zJ, zK, zL, zD, zE, zF, zM, zN, zO, zP, zQ, reduceCtorEq, not_true_eq_false, not_false_eq_true, hd2, fa, addr_add_eq, Nat.zero_add]) | (first | refine iE ?_ ?_ | refine iD ?_ ?_ | refine iQ ?_ ?_ | refine iV ?_ ?_) <;> intro _ | refine And.intro (by omega) ?_ | fail)
    refine vStore_new rfl rfl (by intro u hu; simp only [sdC, List.mem_toArray, List.mem_cons, List.not_mem_nil, or_false] at hu; rcases hu with rfl | rfl | rfl | rfl <;> rfl) ?_
    have l4 := later_alloc w3 (.cells (sdC f).toArray 57)
    have Bf := Blk.new w3 (sdC f).toArray 57
    generalize w3.alloc (.cells (sdC f).toArray 57) = w4 at *
    generalize w3.heap.size = kf at *
    have l14 := l3.trans l4
    have ho4 := ho.later l4
    obtain ⟨c1, c2, c3⟩ := sdB Bf
    have B14 := B1.chg (Chg.of_later (ks := []) l14) (by simp)
    obtain ⟨_, _, b2, _, _⟩ := pnB B14
    by_cases ht : f.tier = x.tier
    case neg =>
      have d1 := decide_eq_false ht
      have hst : cand x (fl.take (i + 1)) = cand x (fl.take i) := by rw [htk, cand_skip ht]
      repeat' (first | (simp (disch := omega) only [push_cast, ↓reduceIte, zA, zG, zB, zH, zI, zC, zJ, zK, zL, zD, zE, zF, zM, zN, zO, zP, zQ, reduceCtorEq, not_true_eq_false, not_false_eq_true, c1, b2, d1, addr_add_eq, Nat.zero_add]) | (first | refine iE ?_ ?_ | refine iD ?_ ?_ | refine iQ ?_ ?_ | refine iV ?_ ?_) <;> intro _ | refine And.intro (by omega) ?_ | fail)
      refine ⟨rfl, (i + 1, ov), by simp (disch := omega) only [push_cast, ↓reduceIte, zA, zG, zB, zH, zI, zC, zJ, zK, zL, zD, zE, zF, zM, zN, zO, zP, zQ, reduceCtorEq, not_true_eq_false, not_false_eq_true], ⟨by dsimp only; omega, l14, by dsimp only; rw [hst]; exact ho4⟩, by dsimp only; omega⟩
    have d1 := decide_eq_true ht
    by_cases hp : f.proj = -1
    · have d2 := decide_eq_true hp
      have hst : cand x (fl.take (i + 1)) = { x with rows := f.rows } :: projs x (fl.take i) := by rw [htk, cand_own ht hp]
      have hshape : ∃ g c, ov = .slice (some ⟨g, 0, none⟩) (cand x (fl.take i)).length c := by
        have h : w4.ownsRow w1.heap.size _ 5 ov ((projs x (fl.take i)).length + 1) _ := ho4
        exact own_succ h
      obtain ⟨g, c, rfl⟩ := hshape
      have hlen : (cand x (fl.take i)).length = (projs x (fl.take i)).length + 1 := rfl
      obtain ⟨k, hk, hkB, hklt, ho5, ⟨y, hy⟩, hfz, _⟩ := own_setN (i := 4) ho4 (by rw [hlen]; omega) (.int .i64 f.rows)
      obtain rfl : g = k := congrArg Addr.block hk
      have ho5' : OwnN (w4.setCell ⟨g, 4, none⟩ (.int .i64 f.rows)) w1.heap.size (.slice (some ⟨g, 0, none⟩) (cand x (fl.take i)).length c) (cand x (fl.take (i + 1))) := by
        rw [hst]
        exact ho5
      have l5 : Later w1 (w4.setCell ⟨g, 4, none⟩ (.int .i64 f.rows)) := l14.setCell hkB _
      have d0 : decide ((0 : Int) < ((cand x (fl.take i)).length : Int)) = true := decide_eq_true (by omega)
      repeat' (first | (simp (disch := omega) only [push_cast, ↓reduceIte, zA, zG, zB, zH, zI, zC, zJ, zK, zL, zD, zE, zF, zM, zN, zO, zP, zQ, reduceCtorEq, not_true_eq_false, not_false_eq_true, c1, c2, c3, b2, d1, d2, hy, hfz, hlen, addr_add_eq, Nat.zero_add]) | (first | refine iE ?_ ?_ | refine iD ?_ ?_ | refine iQ ?_ ?_ | refine iV ?_ ?_) <;> intro _ | refine And.intro (by omega) ?_ | fail)
      generalize w4.setCell ⟨g, 4, none⟩ (.int .i64 f.rows) = w5 at *
      try refine ⟨by omega, ?_⟩
      repeat' (first | (simp (disch := omega) only [push_cast, ↓reduceIte, zA, zG, zB, zH, zI, zC, zJ, zK, zL, zD, zE, zF, zM, zN, zO, zP, zQ, reduceCtorEq, not_true_eq_false, not_false_eq_true, hy, hfz, addr_add_eq, Nat.zero_add]) | (first | refine iE ?_ ?_ | refine iD ?_ ?_ | refine iQ ?_ ?_ | refine iV ?_ ?_) <;> intro _ | refine And.intro (by omega) ?_ | fail)
      refine ⟨rfl, (i + 1, .slice (some ⟨g, 0, none⟩) (cand x (fl.take i)).length c), by simp (disch := omega) only [push_cast, ↓reduceIte, zA, zG, zB, zH, zI, zC, zJ, zK, zL, zD, zE, zF, zM, zN, zO, zP, zQ, reduceCtorEq, not_true_eq_false, not_false_eq_true, hlen], ⟨by dsimp only; omega, l5, by dsimp only; exact ho5'⟩, by dsimp only; omega⟩
    · have d2 := decide_eq_false hp
      have hst : cand x (fl.take (i + 1)) = cand x (fl.take i) ++ [{ x with proj := f.proj, rows := f.rows }] := by rw [htk, cand_proj ht hp]
      have fx : cellsAt w4 ⟨kx, 0, none⟩ 5 = some (pnC x) := Blk.cellsAt (l := pnC x) B14
      repeat' (first | (simp (disch := omega) only [push_cast, ↓reduceIte, zA, zG, zB, zH, zI, zC, zJ, zK, zL, zD, zE, zF, zM, zN, zO, zP, zQ, reduceCtorEq, not_true_eq_false, not_false_eq_true, c1, c2, c3, b2, d1, d2, fx, addr_add_eq, Nat.zero_add]) | (first | refine iE ?_ ?_ | refine iD ?_ ?_ | refine iQ ?_ ?_ | refine iV ?_ ?_) <;> intro _ | refine And.intro (by omega) ?_ | fail)
      refine vStore_new rfl rfl (fun u hu => pnC_one x u (by simpa using hu)) ?_
      have l5 := later_alloc w4 (.cells (pnC x).toArray 49)
      have By := Blk.new w4 (pnC x).toArray 49
      have hlt := World.ownsRow.lt ho4
      have hky : w1.heap.size ≤ w4.heap.size := l14.size
      generalize w4.alloc (.cells (pnC x).toArray 49) = w5 at *
      generalize w4.heap.size = ky at *
      have ho5 := ho4.later l5
      have Bf5 := Bf.chg (Chg.of_later (ks := []) l5) (by simp)
      repeat' (first | (simp (disch := omega) only [push_cast, ↓reduceIte, zA, zG, zB, zH, zI, zC, zJ, zK, zL, zD, zE, zF, zM, zN, zO, zP, zQ, reduceCtorEq, not_true_eq_false, not_false_eq_true]) | (first | refine iE ?_ ?_ | refine iD ?_ ?_ | refine iQ ?_ ?_ | refine iV ?_ ?_) <;> intro _ | refine And.intro (by omega) ?_ | fail)
      refine Or.inr (reg46_c rfl rfl Bf5 By ?_)
      intro σ1 w6 g5 g8 g13 hc6 hB6
      have ho6 := own_off ho5 hc6 (by intro k hk; rw [List.mem_singleton.1 hk]; intro h; have := hlt ky h; omega)
      have l16 : Later w1 w6 := Chg.later (l14.trans l5) hc6 (by intro j hj; rw [List.mem_singleton.1 hj]; exact hky)
      have f6 : cellsAt w6 ⟨ky, 0, none⟩ 5 = some (pnC { x with proj := f.proj, rows := f.rows }) := Blk.cellsAt (l := pnC { x with proj := f.proj, rows := f.rows }) hB6
      have g5 : σ1 5 = ov := g5
      have g13 : σ1 13 = .int .i64 (i : Int) := g13
      generalize ({ x with proj := f.proj, rows := f.rows } : PN) = Y at *
      repeat' (first | (simp (disch := omega) only [push_cast, ↓reduceIte, zA, zG, zB, zH, zI, zC, zJ, zK, zL, zD, zE, zF, zM, zN, zO, zP, zQ, reduceCtorEq, not_true_eq_false, not_false_eq_true, g5, g8, g13, f6, addr_add_eq, Nat.zero_add]) | (first | refine iE ?_ ?_ | refine iD ?_ ?_ | refine iQ ?_ ?_ | refine iV ?_ ?_) <;> intro _ | refine And.intro (by omega) ?_ | fail)
      have la := later_alloc w6 (.cells (pnC Y).toArray 49)
      have Bl := Blk.new w6 (pnC Y).toArray 49
      generalize w6.alloc (.cells (pnC Y).toArray 49) = w7 at *
      have ho7 : OwnN w7 w1.heap.size ov (cand x (fl.take i)) := own_later ho6 la
      refine vAppend_pn (r := [Y]) ho7 (RecS.lit1 (pnC_len Y) Bl) (by simp only [List.length_cons, List.length_nil]; omega) (Nat.le_trans l16.size la.size) ?_
      intro v' w8 ho8 hg _
      have l8 := (l16.trans la).appended ho7 (Nat.le_refl _) hg
      repeat' (first | (simp (disch := omega) only [push_cast, ↓reduceIte, zA, zG, zB, zH, zI, zC, zJ, zK, zL, zD, zE, zF, zM, zN, zO, zP, zQ, reduceCtorEq, not_true_eq_false, not_false_eq_true, g13]) | (first | refine iE ?_ ?_ | refine iD ?_ ?_ | refine iQ ?_ ?_ | refine iV ?_ ?_) <;> intro _ | refine And.intro (by omega) ?_ | fail)
      refine ⟨rfl, (i + 1, v'), by simp (disch := omega) only [push_cast, ↓reduceIte, zA, zG, zB, zH, zI, zC, zJ, zK, zL, zD, zE, zF, zM, zN, zO, zP, zQ, reduceCtorEq, not_true_eq_false, not_false_eq_true], ⟨by dsimp only; omega, l8, by dsimp only; rw [hst]; exact ho8⟩, by dsimp only; omega⟩
  · have hd2 : decide ((i : Int) < (fl.length : Int)) = false := decide_eq_false (by omega)
    rw [List.take_of_length_le (by omega)] at ho
    repeat' (first | (simp (disch := omega) only [push_cast, ↓reduceIte, zA, zG, zB, zH, zI, zC, zJ, zK, zL, zD, zE, zF, zM, zN, zO, zP, zQ, reduceCtorEq, not_true_eq_false, not_false_eq_true, hd2]) | (first | refine iE ?_ ?_ | refine iD ?_ ?_ | refine iQ ?_ ?_ | refine iV ?_ ?_) <;> intro _ | refine And.intro (by omega) ?_ | fail)
    first | exact ⟨(ho.base hb), (l1.trans l3)⟩ | exact (l1.trans l3)
end Go.Proofs.Ytnofalhkapmcnaa
end
section
set_option linter.unusedSimpArgs false
namespace Go.Vc
open Go Go.RowKit
/-- What is answered of stretches: their best, or the first that none is eligible for. -/
def chooseR (E : PN → Bool) (best : PN → PN) (l : List PN) : List PN × Int × Int := match l.find? (fun x => !E x) with
  | some x => ([], x.tier, 261)
  | none => (l.map best, -1, 0)
theorem chooseR_bad {E : PN → Bool} {best : PN → PN} {l : List PN} {i : Nat} (hi : i < l.length) (hE : E l[i] = false) (hb : ∀ j (h : j < l.length), j < i → E l[j] = true) : chooseR E best l = ([], l[i].tier, 261) := by
  have : l.find? (fun x => !E x) = some l[i] := by
    rw [List.find?_eq_some_iff_getElem]
    exact ⟨by simp [hE], i, hi, rfl, fun j hj => by simp [hb j (by omega) hj]⟩
  unfold chooseR
  rw [this]
theorem chooseR_good {E : PN → Bool} {best : PN → PN} {l : List PN} (hb : ∀ x ∈ l, E x = true) : chooseR E best l = (l.map best, -1, 0) := by
  have : l.find? (fun x => !E x) = none := by
    rw [List.find?_eq_none]
    intro x hx; simp [hb x hx]
  unfold chooseR
  rw [this]
theorem strL_mem {fr to : Int} {el : List Int} {n : Nat} {x : PN} (h : x ∈ strL fr to el n) : ∃ i, i < n ∧ x = strI fr to el i ∧ x.fr < x.to := by
  unfold strL at h
  obtain ⟨h1, h2⟩ := List.mem_filter.1 h
  obtain ⟨i, hi, rfl⟩ := List.mem_map.1 h1
  exact ⟨i, List.mem_range.1 hi, rfl, of_decide_eq_true h2⟩
theorem getD_i64 {el : List Int} (h : ∀ n ∈ el, I64 n) (i : Nat) : I64 (el.getD i 0) := by
  rw [List.getD_eq_getElem?_getD]
  cases hq : el[i]? with
  | none => exact ⟨by decide, by decide⟩
  | some v => exact h v (List.mem_of_getElem? hq)
theorem strI_i64 {fr to : Int} {el : List Int} (hf : I64 fr) (ht : I64 to) (h : ∀ n ∈ el, I64 n) (i : Nat) : I64 (strI fr to el i).fr ∧ I64 (strI fr to el i).to := by
  have h1 := getD_i64 h i
  refine ⟨?_, ?_⟩
  · show I64 (max fr (el.getD i 0))
    unfold I64 at *
    omega
  · cases i with
    | zero => exact ht
    | succ i =>
      have h2 := getD_i64 h i
      show I64 (min to (el.getD i 0))
      unfold I64 at *
      omega
end Go.Vc
namespace Go.Proofs.Ytnofalhkapmcnaa
open Go.Vc Go.Key Go.Bkt
set_option maxRecDepth 100000
def bestS (d : List ByteArray) (p : PD) (q : QD) (fl : List SD) (x : PN) : PN := minN { x with rows := ownRows x fl } ((projs x fl).filter (elB d p q))
theorem cand_filter (d : List ByteArray) (p : PD) (q : QD) (fl : List SD) {x : PN} (h : elB d p q x = true) : (cand x fl).filter (elB d p q) = { x with rows := ownRows x fl } :: (projs x fl).filter (elB d p q) := by
  unfold cand
  exact List.filter_cons_of_pos h
theorem cand_in {p : PD} {x : PN} (hx : PnIn p x) {fl : List SD} (hfl : ∀ f ∈ fl, -1 ≤ f.proj ∧ f.proj < (p.pl.length : Int)) {y : PN} (hy : y ∈ cand x fl) : PnIn p y ∧ y.fr = x.fr ∧ y.to = x.to := by
  unfold cand projs at hy
  rcases List.mem_cons.1 hy with rfl | hy
  · exact ⟨⟨hx.t, hx.j⟩, rfl, rfl⟩
  · obtain ⟨f, hf, rfl⟩ := List.mem_map.1 hy
    exact ⟨⟨hx.t, hfl f (List.mem_filter.1 hf).1⟩, rfl, rfl⟩
theorem choose1_c (dv mv : Value) (d m : List ByteArray) (p : PD) (q : QD) (x : PN) (ks kp kq : Nat) (w : World) (f1 : cellsAt w ⟨ks, 0, none⟩ 2 = some [dv, mv]) (f2 : cellsAt w ⟨kp, 0, none⟩ 3 = some (pdC p)) (f3 : cellsAt w ⟨kq, 0, none⟩ 12 = some (qdC q)) (h : ScIs w dv mv d m) (hp : p.Ok w) (hq : q.Ok w) (hx : PnIn p x) (hi : QIn d q) (hf : I6 x.fr) (ht : I6 x.to) : FnC Try.prog 47 #[.agg (pnC x).toArray, pt ks, pt kp, pt kq] w fun v w' => v = .bool (!elB d p q x) ∧ Later w w' := by
  refine enter47 _ _ _ _ ?_
  unfold B47
  have eca : (Value.agg (pnC x).toArray).cells = (pnC x).toArray := rfl
  have l1 := later_alloc w (.cells (pnC x).toArray 49)
  have g : cellsAt (w.alloc (.cells (pnC x).toArray 49)) ⟨w.heap.size, 0, none⟩ 5 = some (pnC x) := Blk.cellsAt (l := pnC x) (Blk.new w _ _)
  have g1 := cellsAt_later l1 2 f1
  have g2 := cellsAt_later l1 3 f2
  have g3 := cellsAt_later l1 12 f3
  repeat' (first | (simp (disch := omega) only [push_cast, ↓reduceIte, zA, zG, zB, zH, zI, zC, zJ, zK, zL, zD, zE, zF, zM, zN, zO, zP, zQ, reduceCtorEq, not_true_eq_false, not_false_eq_true, eca, g, g1, g2, g3]) | (first | refine iE ?_ ?_ | refine iD ?_ ?_ | refine iQ ?_ ?_ | refine iV ?_ ?_) <;> intro _ | refine And.intro (by omega) ?_ | fail)
  generalize w.alloc (.cells (pnC x).toArray 49) = w1 at *
  refine (eligible_c dv mv d m p q x w1 (h.later l1) (hp.later l1) (hq.later l1) hx hi hf ht).mono ?_
  rintro _ w2 ⟨rfl, l2⟩
  repeat' (first | (simp (disch := omega) only [push_cast, ↓reduceIte, zA, zG, zB, zH, zI, zC, zJ, zK, zL, zD, zE, zF, zM, zN, zO, zP, zQ, reduceCtorEq, not_true_eq_false, not_false_eq_true]) | (first | refine iE ?_ ?_ | refine iD ?_ ?_ | refine iQ ?_ ?_ | refine iV ?_ ?_) <;> intro _ | refine And.intro (by omega) ?_ | refine drawn_q ?_ | fail)
  first | exact ⟨rfl, (l1.trans l2)⟩ | exact (l1.trans l2)
def ChV (w : World) (v : Value) (r : List PN × Int × Int) : Prop := ∃ lv, v = .tuple #[lv, .int .i64 r.2.1, .int .i64 r.2.2] ∧ RecS pnC 5 w lv r.1
set_option maxHeartbeats 4000000 in
theorem choose_c (dv mv : Value) (d m : List ByteArray) (p : PD) (ev : Value) (el : List Int) (q : QD) (fv : Value) (fl : List SD) (w : World) (h : ScIs w dv mv d m) (hp : p.Ok w) (he : Sl w ev (el.map (Value.int .i64))) (heI : ∀ n ∈ el, I64 n) (hq : q.Ok w) (hf : RecS sdC 4 w fv fl) (hfo : ∀ f ∈ fl, f.Ok)
    (hel : el.length = p.tl.length) (hF : Fall el) (hpl : p.tl.length ≤ 100) (hi : QIn d q) (hfl : fl.length ≤ 1000) (hfp : ∀ f ∈ fl, -1 ≤ f.proj ∧ f.proj < (p.pl.length : Int)) :
    FnC Try.prog 17 #[scV dv mv, .agg (pdC p).toArray, ev, .agg (qdC q).toArray, fv] w fun v w' => ChV w' v (chooseR (elB d p q) (bestS d p q fl) (strL q.fr q.to el p.tl.length)) ∧ Later w w' := by
  have esc : scV dv mv = .agg #[dv, mv] := rfl
  rw [esc]
  refine enter17 _ _ _ _ _ ?_
  unfold B17
  have eca : (Value.agg (pdC p).toArray).cells = (pdC p).toArray := rfl
  have ecb : (Value.agg #[dv, mv]).cells = #[dv, mv] := rfl
  have ecc : (Value.agg (qdC q).toArray).cells = (qdC q).toArray := rfl
  obtain ⟨k0, hk0⟩ : ∃ k0, k0 = w.heap.size := ⟨_, rfl⟩
  have la := later_alloc w (.cells #[dv, mv] 24)
  have Ba := Blk.new w #[dv, mv] 24
  have sa : (w.alloc (.cells #[dv, mv] 24)).heap.size = k0 + 1 := by rw [World.size_alloc, hk0]
  rw [← hk0] at Ba
  generalize hwa : w.alloc (.cells #[dv, mv] 24) = wa at *
  have lb := later_alloc wa (.cells (pdC p).toArray 28)
  have Bb := Blk.new wa (pdC p).toArray 28
  have sb : (wa.alloc (.cells (pdC p).toArray 28)).heap.size = k0 + 2 := by rw [World.size_alloc, sa]
  rw [sa] at Bb
  generalize hwb : wa.alloc (.cells (pdC p).toArray 28) = wb at *
  have lc := later_alloc wb (.cells (qdC q).toArray 42)
  have Bc := Blk.new wb (qdC q).toArray 42
  rw [sb] at Bc
  generalize hwc : wb.alloc (.cells (qdC q).toArray 42) = w1 at *
  repeat' (first | (simp (disch := omega) only [push_cast, ↓reduceIte, zA, zG, zB, zH, zI, zC, zJ, zK, zL, zD, zE, zF, zM, zN, zO, zP, zQ, reduceCtorEq, not_true_eq_false, not_false_eq_true, eca, ecb, ecc, hwa, sa, hwb, sb, hwc, ← hk0]) | (first | refine iE ?_ ?_ | refine iD ?_ ?_ | refine iQ ?_ ?_ | refine iV ?_ ?_) <;> intro _ | refine And.intro (by omega) ?_ | fail)
  have l01 : Later w w1 := (la.trans lb).trans lc
  have FF : ∀ w', Later w1 w' → cellsAt w' ⟨k0, 0, none⟩ 2 = some [dv, mv] ∧ cellsAt w' ⟨k0 + 1, 0, none⟩ 3 = some (pdC p) ∧ cellsAt w' ⟨k0 + 2, 0, none⟩ 12 = some (qdC q) := by
    intro w' hl
    have z1 := (Ba.chg (Chg.of_later (ks := []) ((lb.trans lc).trans hl)) (by simp))
    have z2 := pdLater Bb (lc.trans hl)
    have z3 := qdLater Bc hl
    exact ⟨Blk.cellsAt (l := [dv, mv]) z1, Blk.cellsAt (l := pdC p) z2, Blk.cellsAt (l := qdC q) z3⟩
  have hk1 : w.heap.size ≤ k0 := by omega
  clear hwa hwb hwc sa sb la lb lc Ba Bb Bc
  obtain ⟨f1, f2, f3⟩ := FF w1 (Later.refl _)
  repeat' (first | (simp (disch := omega) only [push_cast, ↓reduceIte, zA, zG, zB, zH, zI, zC, zJ, zK, zL, zD, zE, zF, zM, zN, zO, zP, zQ, reduceCtorEq, not_true_eq_false, not_false_eq_true, f2, f3]) | (first | refine iE ?_ ?_ | refine iD ?_ ?_ | refine iQ ?_ ?_ | refine iV ?_ ?_) <;> intro _ | refine And.intro (by omega) ?_ | fail)
  refine (stretches_c p ev el q w1 (hp.later l01) (Sl.later he l01) (hq.later l01) hel hF hpl).mono ?_
  rintro lv w2 ⟨hL, l2⟩
  have hLs := OwnR.s hL
  have hLl := strL_len q.fr q.to el p.tl.length
  have hLm : ∀ x ∈ strL q.fr q.to el p.tl.length, PnIn p x ∧ I6 x.fr ∧ I6 x.to := by
    intro x hx
    obtain ⟨i, hi, rfl, _⟩ := strL_mem hx
    have := strI_i64 (el := el) hq.fr hq.to heI i
    exact ⟨⟨by show (0 : Int) ≤ (i : Int) ∧ (i : Int) < _; omega, by show (-1 : Int) ≤ -1 ∧ (-1 : Int) < _; omega⟩, this.1, this.2⟩
  generalize strL q.fr q.to el p.tl.length = L at *
  obtain ⟨lo, lc, rfl, hl1, hl2⟩ := hLs.slice
  have l02 := l01.trans l2
  repeat' (first | (simp (disch := omega) only [push_cast, ↓reduceIte, zA, zG, zB, zH, zI, zC, zJ, zK, zL, zD, zE, zF, zM, zN, zO, zP, zQ, reduceCtorEq, not_true_eq_false, not_false_eq_true]) | (first | refine iE ?_ ?_ | refine iD ?_ ?_ | refine iQ ?_ ?_ | refine iV ?_ ?_) <;> intro _ | refine And.intro (by omega) ?_ | fail)
  refine vc_loop W17_0 (fun p : Nat × Value => [(13, p.2), (22, .int .i64 (p.1 : Int))]) (fun r w' => r.1 ≤ L.length ∧ Later w2 w' ∧ OwnN w' w2.heap.size r.2 ((L.take r.1).map (bestS d p q fl)) ∧ ∀ j (h : j < L.length), j < r.1 → elB d p q L[j] = true) (fun r => L.length - r.1) (0, .slice none 0 0) (by decide) ?_ ?_ ?_
  · simp (disch := omega) only [push_cast, ↓reduceIte, zA, zG, zB, zH, zI, zC, zJ, zK, zL, zD, zE, zF, zM, zN, zO, zP, zQ, reduceCtorEq, not_true_eq_false, not_false_eq_true]
    try rfl
  · exact ⟨Nat.zero_le _, Later.refl _, OwnR.nil _ _ _, fun j _ h => absurd h (Nat.not_lt_zero _)⟩
  rintro ⟨i, ov⟩ uu w3 ⟨hi', l3, ho, hE⟩
  dsimp only at hi' ho hE ⊢
  by_cases hik : i < L.length
  · have hd2 : decide ((i : Int) < (L.length : Int)) = true := decide_eq_true (by omega)
    obtain ⟨a, rfl, fa⟩ := RecS.at pnC_len (hLs.later l3) hik
    obtain ⟨hxin, hxf, hxt⟩ := hLm _ (List.getElem_mem hik)
    have hbad := chooseR_bad (E := elB d p q) (best := bestS d p q fl) hik
    have htk : (L.take (i + 1)).map (bestS d p q fl) = (L.take i).map (bestS d p q fl) ++ [bestS d p q fl L[i]] := by rw [List.take_succ_eq_append_getElem hik, List.map_append]; rfl
    have hEs : elB d p q L[i] = true → ∀ j (h : j < L.length), j < i + 1 → elB d p q L[j] = true := fun hx j h hj => by
      by_cases hji : j < i
      · exact hE j h hji
      · have : j = i := by omega
        subst this; exact hx
    generalize L[i] = x at *
    repeat' (first | (simp (disch := omega) only [push_cast, ↓reduceIte, zA, zG, zB, zH, zI, zC, zJ, zK, zL, zD, zE, zF, zM, zN, zO, zP, zQ, reduceCtorEq, not_true_eq_false, not_false_eq_true, hd2, fa, addr_add_eq, Nat.zero_add]) | (first | refine iE ?_ ?_ | refine iD ?_ ?_ | refine iQ ?_ ?_ | refine iV ?_ ?_) <;> intro _ | refine And.intro (by omega) ?_ | fail)
    refine vStore_new rfl rfl (fun u hu => pnC_one x u (by simpa using hu)) ?_
    have l4 := later_alloc w3 (.cells (pnC x).toArray 49)
    have B4 := Blk.new w3 (pnC x).toArray 49
    generalize w3.alloc (.cells (pnC x).toArray 49) = w4 at *
    generalize w3.heap.size = kx at *
    have l24 := l3.trans l4
    have l14 := l2.trans l24
    have l04 := l01.trans l14
    obtain ⟨f1, f2, f3⟩ := FF w4 l14
    have fx : cellsAt w4 ⟨kx, 0, none⟩ 5 = some (pnC x) := Blk.cellsAt (l := pnC x) B4
    repeat' (first | (simp (disch := omega) only [push_cast, ↓reduceIte, zA, zG, zB, zH, zI, zC, zJ, zK, zL, zD, zE, zF, zM, zN, zO, zP, zQ, reduceCtorEq, not_true_eq_false, not_false_eq_true, f1, f2, f3, fx]) | (first | refine iE ?_ ?_ | refine iD ?_ ?_ | refine iQ ?_ ?_ | refine iV ?_ ?_) <;> intro _ | refine And.intro (by omega) ?_ | fail)
    refine (eligible_c dv mv d m p q x w4 (h.later l04) (hp.later l04) (hq.later l04) hxin hi hxf hxt).mono ?_
    rintro _ w5 ⟨rfl, l5⟩
    have l25 := l24.trans l5
    have l15 := l14.trans l5
    have l05 := l04.trans l5
    have B5 := B4.chg (Chg.of_later (ks := []) l5) (by simp)
    obtain ⟨_, _, b2, _, _⟩ := pnB B5
    have fx5 := cellsAt_later l5 5 fx
    cases hel' : elB d p q x with
    | false =>
      rw [hbad hel' hE]
      repeat' (first | (simp (disch := omega) only [push_cast, ↓reduceIte, zA, zG, zB, zH, zI, zC, zJ, zK, zL, zD, zE, zF, zM, zN, zO, zP, zQ, reduceCtorEq, not_true_eq_false, not_false_eq_true]) | (first | refine iE ?_ ?_ | refine iD ?_ ?_ | refine iQ ?_ ?_ | refine iV ?_ ?_) <;> intro _ | refine And.intro (by omega) ?_ | fail)
      refine drawn_q ?_
      repeat' (first | (simp (disch := omega) only [push_cast, ↓reduceIte, zA, zG, zB, zH, zI, zC, zJ, zK, zL, zD, zE, zF, zM, zN, zO, zP, zQ, reduceCtorEq, not_true_eq_false, not_false_eq_true, b2, addr_add_eq, Nat.zero_add]) | (first | refine iE ?_ ?_ | refine iD ?_ ?_ | refine iQ ?_ ?_ | refine iV ?_ ?_) <;> intro _ | refine And.intro (by omega) ?_ | fail)
      intro w6 l6
      repeat' (first | (simp (disch := omega) only [push_cast, ↓reduceIte, zA, zG, zB, zH, zI, zC, zJ, zK, zL, zD, zE, zF, zM, zN, zO, zP, zQ, reduceCtorEq, not_true_eq_false, not_false_eq_true]) | (first | refine iE ?_ ?_ | refine iD ?_ ?_ | refine iQ ?_ ?_ | refine iV ?_ ?_) <;> intro _ | refine And.intro (by omega) ?_ | refine drawn_q ?_ | fail)
      first | exact ⟨⟨_, rfl, RecS.nil _⟩, l05.trans l6⟩ | trace_state
    | true =>
    repeat' (first | (simp (disch := omega) only [push_cast, ↓reduceIte, zA, zG, zB, zH, zI, zC, zJ, zK, zL, zD, zE, zF, zM, zN, zO, zP, zQ, reduceCtorEq, not_true_eq_false, not_false_eq_true, fx5]) | (first | refine iE ?_ ?_ | refine iD ?_ ?_ | refine iQ ?_ ?_ | refine iV ?_ ?_) <;> intro _ | refine And.intro (by omega) ?_ | fail)
    refine (candidates_c x fv fl w5 (hf.later l05) hfo hfl).mono ?_
    rintro cv w6 ⟨hcv, l6⟩
    have l16 := l15.trans l6
    have l06 := l05.trans l6
    have hcl := cand_len x fl
    have hpr : ∀ y ∈ cand x fl, Prd Try.prog w5 47 #[pt k0, pt (k0 + 1), pt (k0 + 2)] (.agg (pnC y).toArray) (!elB d p q y) := by
      intro y hy w' hl
      obtain ⟨hyi, hyf, hyt⟩ := cand_in hxin hfp hy
      obtain ⟨f1, f2, f3⟩ := FF w' (l15.trans hl)
      have l0' := l05.trans hl
      exact choose1_c dv mv d m p q y k0 (k0 + 1) (k0 + 2) w' f1 f2 f3 (h.later l0') (hp.later l0') (hq.later l0') hyi hi (by rw [hyf]; exact hxf) (by rw [hyt]; exact hxt)
    repeat' (first | (simp (disch := omega) only [push_cast, ↓reduceIte, zA, zG, zB, zH, zI, zC, zJ, zK, zL, zD, zE, zF, zM, zN, zO, zP, zQ, reduceCtorEq, not_true_eq_false, not_false_eq_true]) | (first | refine iE ?_ ?_ | refine iD ?_ ?_ | refine iQ ?_ ?_ | refine iV ?_ ?_) <;> intro _ | refine And.intro (by omega) ?_ | fail)
    refine (pdelete_c w5.heap.size cv (cand x fl) 47 #[pt k0, pt (k0 + 1), pt (k0 + 2)] (fun y => !elB d p q y) w5 w6 l6 (Nat.le_refl _) hcv hpr (by omega)).mono ?_
    rintro dl w7 ⟨hdl, l7⟩
    have hfil : (cand x fl).filter (fun y => !!elB d p q y) = { x with rows := ownRows x fl } :: (projs x fl).filter (elB d p q) := by
      rw [← cand_filter d p q fl hel']
      congr 1
      funext y
      simp
    rw [hfil] at hdl
    have l27 := l25.trans l7
    repeat' (first | (simp (disch := omega) only [push_cast, ↓reduceIte, zA, zG, zB, zH, zI, zC, zJ, zK, zL, zD, zE, zF, zM, zN, zO, zP, zQ, reduceCtorEq, not_true_eq_false, not_false_eq_true]) | (first | refine iE ?_ ?_ | refine iD ?_ ?_ | refine iQ ?_ ?_ | refine iV ?_ ?_) <;> intro _ | refine And.intro (by omega) ?_ | fail)
    refine (minFunc_c dl _ _ w7 hdl).mono ?_
    rintro _ w8 ⟨rfl, l8⟩
    have hbs : minN { x with rows := ownRows x fl } ((projs x fl).filter (elB d p q)) = bestS d p q fl x := rfl
    rw [hbs]
    generalize bestS d p q fl x = X at *
    have l28 := l27.trans l8
    have ho8 := ho.later (l4.trans (l5.trans (l7.trans l8)))
    repeat' (first | (simp (disch := omega) only [push_cast, ↓reduceIte, zA, zG, zB, zH, zI, zC, zJ, zK, zL, zD, zE, zF, zM, zN, zO, zP, zQ, reduceCtorEq, not_true_eq_false, not_false_eq_true]) | (first | refine iE ?_ ?_ | refine iD ?_ ?_ | refine iQ ?_ ?_ | refine iV ?_ ?_) <;> intro _ | refine And.intro (by omega) ?_ | fail)
    have la := later_alloc w8 (.cells (pnC X).toArray 49)
    have Bl := Blk.new w8 (pnC X).toArray 49
    generalize w8.alloc (.cells (pnC X).toArray 49) = w9 at *
    have ho9 := ho8.later la
    refine vAppend_pn (r := [X]) ho9 (RecS.lit1 (pnC_len X) Bl) (by simp only [List.length_map, List.length_take, List.length_cons, List.length_nil]; omega) (Nat.le_trans l28.size la.size) ?_
    intro v' w10 ho10 hg _
    have l10 := (l28.trans la).appended ho9 (Nat.le_refl _) hg
    repeat' (first | (simp (disch := omega) only [push_cast, ↓reduceIte, zA, zG, zB, zH, zI, zC, zJ, zK, zL, zD, zE, zF, zM, zN, zO, zP, zQ, reduceCtorEq, not_true_eq_false, not_false_eq_true]) | (first | refine iE ?_ ?_ | refine iD ?_ ?_ | refine iQ ?_ ?_ | refine iV ?_ ?_) <;> intro _ | refine And.intro (by omega) ?_ | fail)
    refine ⟨rfl, (i + 1, v'), by simp (disch := omega) only [push_cast, ↓reduceIte, zA, zG, zB, zH, zI, zC, zJ, zK, zL, zD, zE, zF, zM, zN, zO, zP, zQ, reduceCtorEq, not_true_eq_false, not_false_eq_true], ⟨by dsimp only; omega, l10, by dsimp only; rw [htk]; exact ho10, hEs hel'⟩, by dsimp only; omega⟩
  · have hd2 : decide ((i : Int) < (L.length : Int)) = false := decide_eq_false (by omega)
    rw [List.take_of_length_le (by omega)] at ho
    have hg : chooseR (elB d p q) (bestS d p q fl) L = (L.map (bestS d p q fl), -1, 0) := chooseR_good fun x hx => by
      obtain ⟨j, hj, rfl⟩ := List.getElem_of_mem hx
      exact hE j hj (by omega)
    rw [hg]
    repeat' (first | (simp (disch := omega) only [push_cast, ↓reduceIte, zA, zG, zB, zH, zI, zC, zJ, zK, zL, zD, zE, zF, zM, zN, zO, zP, zQ, reduceCtorEq, not_true_eq_false, not_false_eq_true, hd2]) | (first | refine iE ?_ ?_ | refine iD ?_ ?_ | refine iQ ?_ ?_ | refine iV ?_ ?_) <;> intro _ | refine And.intro (by omega) ?_ | fail)
    exact ⟨⟨_, rfl, OwnR.s ho⟩, l02.trans l3⟩
end Go.Proofs.Ytnofalhkapmcnaa
end
section
set_option linter.unusedSimpArgs false
namespace Go.Vc
open Go Go.RowKit
def isF (t k : Int) (f : SD) : Bool := decide (f.tier = t) && decide (f.proj = k)
/-- How many rows a cuboid's file has. -/
def rowsF (fl : List SD) (t k : Int) : Option Int := (fl.find? (isF t k)).map (·.rows)
theorem rowsF_hit {fl : List SD} {t k : Int} {i : Nat} (hi : i < fl.length) (h : isF t k fl[i] = true) (hb : ∀ j (h : j < fl.length), j < i → isF t k fl[j] = false) : rowsF fl t k = some fl[i].rows := by
  have : fl.find? (isF t k) = some fl[i] := by
    rw [List.find?_eq_some_iff_getElem]
    exact ⟨h, i, hi, rfl, fun j hj => by simp [hb j (by omega) hj]⟩
  unfold rowsF
  rw [this]; rfl
theorem rowsF_miss {fl : List SD} {t k : Int} (hb : ∀ j (h : j < fl.length), isF t k fl[j] = false) : rowsF fl t k = none := by
  have : fl.find? (isF t k) = none := by
    rw [List.find?_eq_none]
    intro x hx
    obtain ⟨j, hj, rfl⟩ := List.getElem_of_mem hx
    simp [hb j hj]
  unfold rowsF
  rw [this]; rfl
def rowsV (fl : List SD) (t k : Int) : Value := .tuple #[.int .i64 ((rowsF fl t k).getD 0), .bool (rowsF fl t k).isSome]
end Go.Vc
namespace Go.Proofs.Ytnofalhkapmcnaa
open Go.Vc Go.Key Go.Bkt
set_option maxRecDepth 100000
theorem drows_c (fv : Value) (fl : List SD) (t k : Int) (w : World) (h : RecS sdC 4 w fv fl) : FnC Try.prog 52 #[fv, .int .i64 t, .int .i64 k] w fun v w' => v = rowsV fl t k ∧ Later w w' := by
  obtain ⟨o, c, rfl, g1, g2⟩ := h.slice
  refine enter52 _ _ _ ?_
  unfold B52
  repeat' (first | (simp (disch := omega) only [push_cast, ↓reduceIte, zA, zG, zB, zH, zI, zC, zJ, zK, zL, zD, zE, zF, zM, zN, zO, zP, zQ, reduceCtorEq, not_true_eq_false, not_false_eq_true]) | (first | refine iE ?_ ?_ | refine iD ?_ ?_ | refine iQ ?_ ?_ | refine iV ?_ ?_) <;> intro _ | refine And.intro (by omega) ?_ | refine drawn_q ?_ | fail)
  refine vc_loop W52_0 (fun i : Nat => [(6, .int .i64 0), (7, .bool false), (8, .int .i64 (i : Int))]) (fun i w' => i ≤ fl.length ∧ Later w w' ∧ ∀ j (h : j < fl.length), j < i → isF t k fl[j] = false) (fun i => fl.length - i) 0 (by decide) ?_ ?_ ?_
  · simp (disch := omega) only [push_cast, ↓reduceIte, zA, zG, zB, zH, zI, zC, zJ, zK, zL, zD, zE, zF, zM, zN, zO, zP, zQ, reduceCtorEq, not_true_eq_false, not_false_eq_true]
    try rfl
  · exact ⟨Nat.zero_le _, Later.refl _, fun j _ h => absurd h (Nat.not_lt_zero _)⟩
  rintro i uu w1 ⟨hi, l1, hno⟩
  by_cases hil : i < fl.length
  · have hd : decide ((i : Int) < (fl.length : Int)) = true := decide_eq_true (by omega)
    have h1 := h.later l1
    obtain ⟨a, rfl, _⟩ := RecS.at sdC_len h1 hil
    have t1 := RecS.cell (j := 1) sdC_len h1 hil rfl
    have t2 := RecS.cell (j := 2) sdC_len h1 hil rfl
    have t3 := RecS.cell (j := 3) sdC_len h1 hil rfl
    have hhit := rowsF_hit (t := t) (k := k) hil
    have hnx : isF t k fl[i] = false → ∀ j (h : j < fl.length), j < i + 1 → isF t k fl[j] = false := fun hx j h hj => by
      by_cases hji : j < i
      · exact hno j h hji
      · have : j = i := by omega
        subst this; exact hx
    have his : isF t k fl[i] = (decide (fl[i].tier = t) && decide (fl[i].proj = k)) := rfl
    generalize fl[i] = f at *
    by_cases e1 : f.tier = t
    · have d1 := decide_eq_true e1
      by_cases e2 : f.proj = k
      · have d2 := decide_eq_true e2
        rw [d1, d2] at his
        unfold rowsV
        rw [hhit his hno]
        repeat' (first | (simp (disch := omega) only [push_cast, ↓reduceIte, zA, zG, zB, zH, zI, zC, zJ, zK, zL, zD, zE, zF, zM, zN, zO, zP, zQ, reduceCtorEq, not_true_eq_false, not_false_eq_true, hd, t1, t2, t3, d1, d2]) | (first | refine iE ?_ ?_ | refine iD ?_ ?_ | refine iQ ?_ ?_ | refine iV ?_ ?_) <;> intro _ | refine And.intro (by omega) ?_ | refine drawn_q ?_ | fail)
        all_goals first | exact ⟨rfl, l1⟩ | exact l1 | (refine fun w' hl => ?_; repeat' (first | (simp (disch := omega) only [push_cast, ↓reduceIte, zA, zG, zB, zH, zI, zC, zJ, zK, zL, zD, zE, zF, zM, zN, zO, zP, zQ, reduceCtorEq, not_true_eq_false, not_false_eq_true]) | (first | refine iE ?_ ?_ | refine iD ?_ ?_ | refine iQ ?_ ?_ | refine iV ?_ ?_) <;> intro _ | refine And.intro (by omega) ?_ | refine drawn_q ?_ | fail); first | exact ⟨rfl, l1.trans hl⟩ | exact l1.trans hl)
      · have d2 := decide_eq_false e2
        rw [d1, d2] at his
        repeat' (first | (simp (disch := omega) only [push_cast, ↓reduceIte, zA, zG, zB, zH, zI, zC, zJ, zK, zL, zD, zE, zF, zM, zN, zO, zP, zQ, reduceCtorEq, not_true_eq_false, not_false_eq_true, hd, t1, t2, d1, d2]) | (first | refine iE ?_ ?_ | refine iD ?_ ?_ | refine iQ ?_ ?_ | refine iV ?_ ?_) <;> intro _ | refine And.intro (by omega) ?_ | refine drawn_q ?_ | fail)
        exact ⟨rfl, i + 1, by simp (disch := omega) only [push_cast, ↓reduceIte, zA, zG, zB, zH, zI, zC, zJ, zK, zL, zD, zE, zF, zM, zN, zO, zP, zQ, reduceCtorEq, not_true_eq_false, not_false_eq_true], ⟨by omega, l1, hnx his⟩, by dsimp only; omega⟩
    · have d1 := decide_eq_false e1
      rw [d1] at his
      repeat' (first | (simp (disch := omega) only [push_cast, ↓reduceIte, zA, zG, zB, zH, zI, zC, zJ, zK, zL, zD, zE, zF, zM, zN, zO, zP, zQ, reduceCtorEq, not_true_eq_false, not_false_eq_true, hd, t1, d1]) | (first | refine iE ?_ ?_ | refine iD ?_ ?_ | refine iQ ?_ ?_ | refine iV ?_ ?_) <;> intro _ | refine And.intro (by omega) ?_ | refine drawn_q ?_ | fail)
      exact ⟨rfl, i + 1, by simp (disch := omega) only [push_cast, ↓reduceIte, zA, zG, zB, zH, zI, zC, zJ, zK, zL, zD, zE, zF, zM, zN, zO, zP, zQ, reduceCtorEq, not_true_eq_false, not_false_eq_true], ⟨by omega, l1, hnx his⟩, by dsimp only; omega⟩
  · have hd : decide ((i : Int) < (fl.length : Int)) = false := decide_eq_false (by omega)
    unfold rowsV
    rw [rowsF_miss fun j hj => hno j hj (by omega)]
    repeat' (first | (simp (disch := omega) only [push_cast, ↓reduceIte, zA, zG, zB, zH, zI, zC, zJ, zK, zL, zD, zE, zF, zM, zN, zO, zP, zQ, reduceCtorEq, not_true_eq_false, not_false_eq_true, hd]) | (first | refine iE ?_ ?_ | refine iD ?_ ?_ | refine iQ ?_ ?_ | refine iV ?_ ?_) <;> intro _ | refine And.intro (by omega) ?_ | refine drawn_q ?_ | fail)
    all_goals first | exact ⟨rfl, l1⟩ | exact l1
/-- One projection looked at. -/
def stepD (d : List ByteArray) (p : PD) (q : QD) (fl : List SD) (x b : PN) (k : Nat) : PN :=
  if ((p.pl.getD k default).a = x.tier ∧ (rowsF fl x.tier (k : Int)).isSome = true ∧ (rowsF fl x.tier (k : Int)).getD 0 < b.rows) ∧ elB d p q { x with proj := (k : Int), rows := (rowsF fl x.tier (k : Int)).getD 0 } = true then { x with proj := (k : Int), rows := (rowsF fl x.tier (k : Int)).getD 0 } else b
def bestD (d : List ByteArray) (p : PD) (q : QD) (fl : List SD) (x : PN) (n : Nat) : PN := (List.range n).foldl (stepD d p q fl x) { x with rows := (rowsF fl x.tier (-1)).getD 0 }
theorem bestD_succ (d : List ByteArray) (p : PD) (q : QD) (fl : List SD) (x : PN) (n : Nat) : bestD d p q fl x (n + 1) = stepD d p q fl x (bestD d p q fl x n) n := by
  unfold bestD
  rw [List.range_succ, List.foldl_append]; rfl
set_option maxHeartbeats 2000000 in
theorem dchoose_c (dv mv : Value) (d m : List ByteArray) (p : PD) (ev : Value) (el : List Int) (q : QD) (fv : Value) (fl : List SD) (w : World) (h : ScIs w dv mv d m) (hp : p.Ok w) (he : Sl w ev (el.map (Value.int .i64))) (heI : ∀ n ∈ el, I64 n) (hq : q.Ok w) (hf : RecS sdC 4 w fv fl)
    (hel : el.length = p.tl.length) (hpl : p.tl.length ≤ 100) (hppl : p.pl.length ≤ 100) (hi : QIn d q) :
    FnC Try.prog 18 #[scV dv mv, .agg (pdC p).toArray, ev, .agg (qdC q).toArray, fv] w fun v w' => ChV w' v (chooseR (elB d p q) (fun x => bestD d p q fl x p.pl.length) (strL q.fr q.to el p.tl.length)) ∧ Later w w' := by
  have esc : scV dv mv = .agg #[dv, mv] := rfl
  rw [esc]
  obtain ⟨po, pc, hpv, hp1, hp2⟩ := RecS.slice hp.pv
  refine enter18 _ _ _ _ _ ?_
  unfold B18
  have eca : (Value.agg (pdC p).toArray).cells = (pdC p).toArray := rfl
  have ecb : (Value.agg #[dv, mv]).cells = #[dv, mv] := rfl
  have ecc : (Value.agg (qdC q).toArray).cells = (qdC q).toArray := rfl
  obtain ⟨k0, hk0⟩ : ∃ k0, k0 = w.heap.size := ⟨_, rfl⟩
  have la := later_alloc w (.cells #[dv, mv] 24)
  have Ba := Blk.new w #[dv, mv] 24
  have sa : (w.alloc (.cells #[dv, mv] 24)).heap.size = k0 + 1 := by rw [World.size_alloc, hk0]
  rw [← hk0] at Ba
  generalize hwa : w.alloc (.cells #[dv, mv] 24) = wa at *
  have lb := later_alloc wa (.cells (pdC p).toArray 28)
  have Bb := Blk.new wa (pdC p).toArray 28
  have sb : (wa.alloc (.cells (pdC p).toArray 28)).heap.size = k0 + 2 := by rw [World.size_alloc, sa]
  rw [sa] at Bb
  generalize hwb : wa.alloc (.cells (pdC p).toArray 28) = wb at *
  have lc := later_alloc wb (.cells (qdC q).toArray 42)
  have Bc := Blk.new wb (qdC q).toArray 42
  rw [sb] at Bc
  generalize hwc : wb.alloc (.cells (qdC q).toArray 42) = w1 at *
  repeat' (first | (simp (disch := omega) only [push_cast, ↓reduceIte, zA, zG, zB, zH, zI, zC, zJ, zK, zL, zD, zE, zF, zM, zN, zO, zP, zQ, reduceCtorEq, not_true_eq_false, not_false_eq_true, eca, ecb, ecc, hwa, sa, hwb, sb, hwc, ← hk0]) | (first | refine iE ?_ ?_ | refine iD ?_ ?_ | refine iQ ?_ ?_ | refine iV ?_ ?_) <;> intro _ | refine And.intro (by omega) ?_ | fail)
  have l01 : Later w w1 := (la.trans lb).trans lc
  have FF : ∀ w', Later w1 w' → cellsAt w' ⟨k0, 0, none⟩ 2 = some [dv, mv] ∧ cellsAt w' ⟨k0 + 1, 0, none⟩ 3 = some (pdC p) ∧ cellsAt w' ⟨k0 + 2, 0, none⟩ 12 = some (qdC q) ∧ w'.cell? ⟨k0 + 1, 1, none⟩ = some p.pv := by
    intro w' hl
    have z1 := (Ba.chg (Chg.of_later (ks := []) ((lb.trans lc).trans hl)) (by simp))
    have z2 := pdLater Bb (lc.trans hl)
    have z3 := qdLater Bc hl
    exact ⟨Blk.cellsAt (l := [dv, mv]) z1, Blk.cellsAt (l := pdC p) z2, Blk.cellsAt (l := qdC q) z3, z2.cell 1⟩
  have hk1 : w.heap.size ≤ k0 := by omega
  clear hwa hwb hwc sa sb la lb lc Ba Bb Bc
  obtain ⟨f1, f2, f3, _⟩ := FF w1 (Later.refl _)
  repeat' (first | (simp (disch := omega) only [push_cast, ↓reduceIte, zA, zG, zB, zH, zI, zC, zJ, zK, zL, zD, zE, zF, zM, zN, zO, zP, zQ, reduceCtorEq, not_true_eq_false, not_false_eq_true, f2, f3]) | (first | refine iE ?_ ?_ | refine iD ?_ ?_ | refine iQ ?_ ?_ | refine iV ?_ ?_) <;> intro _ | refine And.intro (by omega) ?_ | fail)
  refine (dstretches_c p ev el q w1 (hp.later l01) (Sl.later he l01) (hq.later l01) hel hpl).mono ?_
  rintro lv w2 ⟨hL, l2⟩
  have hLs := OwnR.s hL
  have hLl := strL_len q.fr q.to el p.tl.length
  have hLm : ∀ x ∈ strL q.fr q.to el p.tl.length, PnIn p x ∧ I6 x.fr ∧ I6 x.to := by
    intro x hx
    obtain ⟨i, hi, rfl, _⟩ := strL_mem hx
    have := strI_i64 (el := el) hq.fr hq.to heI i
    exact ⟨⟨by show (0 : Int) ≤ (i : Int) ∧ (i : Int) < _; omega, by show (-1 : Int) ≤ -1 ∧ (-1 : Int) < _; omega⟩, this.1, this.2⟩
  generalize strL q.fr q.to el p.tl.length = L at *
  obtain ⟨lo, lc, rfl, hl1, hl2⟩ := hLs.slice
  have l02 := l01.trans l2
  repeat' (first | (simp (disch := omega) only [push_cast, ↓reduceIte, zA, zG, zB, zH, zI, zC, zJ, zK, zL, zD, zE, zF, zM, zN, zO, zP, zQ, reduceCtorEq, not_true_eq_false, not_false_eq_true]) | (first | refine iE ?_ ?_ | refine iD ?_ ?_ | refine iQ ?_ ?_ | refine iV ?_ ?_) <;> intro _ | refine And.intro (by omega) ?_ | fail)
  refine vc_loop W18_0 (fun p : Nat × Value => [(14, p.2), (15, .int .i64 (p.1 : Int))]) (fun r w' => r.1 ≤ L.length ∧ Later w2 w' ∧ OwnN w' w2.heap.size r.2 ((L.take r.1).map (fun x => bestD d p q fl x p.pl.length)) ∧ ∀ j (h : j < L.length), j < r.1 → elB d p q L[j] = true) (fun r => L.length - r.1) (0, .slice none 0 0) (by decide) ?_ ?_ ?_
  · simp (disch := omega) only [push_cast, ↓reduceIte, zA, zG, zB, zH, zI, zC, zJ, zK, zL, zD, zE, zF, zM, zN, zO, zP, zQ, reduceCtorEq, not_true_eq_false, not_false_eq_true]
    try rfl
  · exact ⟨Nat.zero_le _, Later.refl _, OwnR.nil _ _ _, fun j _ h => absurd h (Nat.not_lt_zero _)⟩
  rintro ⟨i, ov⟩ uu w3 ⟨hi', l3, ho, hE⟩
  dsimp only at hi' ho hE ⊢
  by_cases hik : i < L.length
  · have hd2 : decide ((i : Int) < (L.length : Int)) = true := decide_eq_true (by omega)
    obtain ⟨a, rfl, fa⟩ := RecS.at pnC_len (hLs.later l3) hik
    have hFA : ∀ w', Later w2 w' → cellsAt w' (a.add (i * 5)) 5 = some (pnC L[i]) ∧ w'.cell? ((a.add (i * 5)).add 2) = some (.int .i64 L[i].tier) := fun w' hl => ⟨RecS.get pnC_len (hLs.later hl) hik, RecS.cell (j := 2) pnC_len (hLs.later hl) hik rfl⟩
    obtain ⟨hxin, hxf, hxt⟩ := hLm _ (List.getElem_mem hik)
    have hbad := chooseR_bad (E := elB d p q) (best := fun x => bestD d p q fl x p.pl.length) hik
    have htk : (L.take (i + 1)).map (fun x => bestD d p q fl x p.pl.length) = (L.take i).map (fun x => bestD d p q fl x p.pl.length) ++ [bestD d p q fl L[i] p.pl.length] := by rw [List.take_succ_eq_append_getElem hik, List.map_append]; rfl
    have hEs : elB d p q L[i] = true → ∀ j (h : j < L.length), j < i + 1 → elB d p q L[j] = true := fun hx j h hj => by
      by_cases hji : j < i
      · exact hE j h hji
      · have : j = i := by omega
        subst this; exact hx
    generalize L[i] = x at *
    repeat' (first | (simp (disch := omega) only [push_cast, ↓reduceIte, zA, zG, zB, zH, zI, zC, zJ, zK, zL, zD, zE, zF, zM, zN, zO, zP, zQ, reduceCtorEq, not_true_eq_false, not_false_eq_true, hd2, fa, addr_add_eq, Nat.zero_add]) | (first | refine iE ?_ ?_ | refine iD ?_ ?_ | refine iQ ?_ ?_ | refine iV ?_ ?_) <;> intro _ | refine And.intro (by omega) ?_ | fail)
    refine vStore_new rfl rfl (fun u hu => pnC_one x u (by simpa using hu)) ?_
    have l4 := later_alloc w3 (.cells (pnC x).toArray 49)
    have B4 := Blk.new w3 (pnC x).toArray 49
    have hlt := World.ownsRow.lt ho
    have hkx2 : w2.heap.size ≤ w3.heap.size := l3.size
    generalize w3.alloc (.cells (pnC x).toArray 49) = w4 at *
    generalize w3.heap.size = kx at *
    have l24 := l3.trans l4
    have l14 := l2.trans l24
    have l04 := l01.trans l14
    obtain ⟨f1, f2, f3, _⟩ := FF w4 l14
    have fx : cellsAt w4 ⟨kx, 0, none⟩ 5 = some (pnC x) := Blk.cellsAt (l := pnC x) B4
    repeat' (first | (simp (disch := omega) only [push_cast, ↓reduceIte, zA, zG, zB, zH, zI, zC, zJ, zK, zL, zD, zE, zF, zM, zN, zO, zP, zQ, reduceCtorEq, not_true_eq_false, not_false_eq_true, f1, f2, f3, fx]) | (first | refine iE ?_ ?_ | refine iD ?_ ?_ | refine iQ ?_ ?_ | refine iV ?_ ?_) <;> intro _ | refine And.intro (by omega) ?_ | fail)
    refine (deligible_c dv mv d m p q x w4 (h.later l04) (hp.later l04) (hq.later l04) hxin hi hxf hxt).mono ?_
    rintro _ w5 ⟨rfl, l5⟩
    have l25 := l24.trans l5
    have l15 := l14.trans l5
    have l05 := l04.trans l5
    have B5 := B4.chg (Chg.of_later (ks := []) l5) (by simp)
    obtain ⟨_, _, b2, _, _⟩ := pnB B5
    obtain ⟨_, fa5⟩ := hFA w5 l25
    cases hel' : elB d p q x with
    | false =>
      rw [hbad hel' hE]
      repeat' (first | (simp (disch := omega) only [push_cast, ↓reduceIte, zA, zG, zB, zH, zI, zC, zJ, zK, zL, zD, zE, zF, zM, zN, zO, zP, zQ, reduceCtorEq, not_true_eq_false, not_false_eq_true, hd2]) | (first | refine iE ?_ ?_ | refine iD ?_ ?_ | refine iQ ?_ ?_ | refine iV ?_ ?_) <;> intro _ | refine And.intro (by omega) ?_ | fail)
      refine drawn_q ?_
      repeat' (first | (simp (disch := omega) only [push_cast, ↓reduceIte, zA, zG, zB, zH, zI, zC, zJ, zK, zL, zD, zE, zF, zM, zN, zO, zP, zQ, reduceCtorEq, not_true_eq_false, not_false_eq_true, hd2, fa5, addr_add_eq, Nat.zero_add]) | (first | refine iE ?_ ?_ | refine iD ?_ ?_ | refine iQ ?_ ?_ | refine iV ?_ ?_) <;> intro _ | refine And.intro (by omega) ?_ | fail)
      intro w6 l6
      repeat' (first | (simp (disch := omega) only [push_cast, ↓reduceIte, zA, zG, zB, zH, zI, zC, zJ, zK, zL, zD, zE, zF, zM, zN, zO, zP, zQ, reduceCtorEq, not_true_eq_false, not_false_eq_true]) | (first | refine iE ?_ ?_ | refine iD ?_ ?_ | refine iQ ?_ ?_ | refine iV ?_ ?_) <;> intro _ | refine And.intro (by omega) ?_ | refine drawn_q ?_ | fail)
      first | exact ⟨⟨_, rfl, RecS.nil _⟩, l05.trans l6⟩ | trace_state
    | true =>
    repeat' (first | (simp (disch := omega) only [push_cast, ↓reduceIte, zA, zG, zB, zH, zI, zC, zJ, zK, zL, zD, zE, zF, zM, zN, zO, zP, zQ, reduceCtorEq, not_true_eq_false, not_false_eq_true, b2, addr_add_eq, Nat.zero_add]) | (first | refine iE ?_ ?_ | refine iD ?_ ?_ | refine iQ ?_ ?_ | refine iV ?_ ?_) <;> intro _ | refine And.intro (by omega) ?_ | fail)
    refine (drows_c fv fl x.tier (-1) w5 (hf.later l05)).mono ?_
    rintro _ w6 ⟨rfl, l6⟩
    unfold rowsV
    have B6 := B5.chg (Chg.of_later (ks := []) l6) (by simp)
    obtain ⟨_, _, _, _, b4⟩ := pnB B6
    have fz := B6.frozen 4
    have B7 := B6.set 4 (.int .i64 ((rowsF fl x.tier (-1)).getD 0))
    have c7 : Chg w6 (w6.setCell ⟨kx, 4, none⟩ (.int .i64 ((rowsF fl x.tier (-1)).getD 0))) [kx] := chg_setCell w6 (by simp) _
    have l26 := l25.trans l6
    have ho6 : OwnN w6 w2.heap.size ov ((L.take i).map (fun x => bestD d p q fl x p.pl.length)) := own_later ho (l4.trans (l5.trans l6))
    have hoff : ∀ k ∈ [kx], ov.ownBlock ≠ some k := by intro k hk; rw [List.mem_singleton.1 hk]; intro h; have := hlt kx h; omega
    have ho7 : OwnN _ w2.heap.size ov ((L.take i).map (fun x => bestD d p q fl x p.pl.length)) := own_off ho6 c7 hoff
    have l27 := Chg.later l26 c7 (by intro j hj; rw [List.mem_singleton.1 hj]; exact hkx2)
    have hb0 : bestD d p q fl x 0 = { x with rows := (rowsF fl x.tier (-1)).getD 0 } := rfl
    have B7 : Blk (w6.setCell ⟨kx, 4, none⟩ (.int .i64 ((rowsF fl x.tier (-1)).getD 0))) kx (pnC (bestD d p q fl x 0)).toArray 49 := B7
    clear hb0
    generalize hR : (rowsF fl x.tier (-1)).getD 0 = R at *
    repeat' (first | (simp (disch := omega) only [push_cast, ↓reduceIte, zA, zG, zB, zH, zI, zC, zJ, zK, zL, zD, zE, zF, zM, zN, zO, zP, zQ, reduceCtorEq, not_true_eq_false, not_false_eq_true, b4, fz, addr_add_eq, Nat.zero_add]) | (first | refine iE ?_ ?_ | refine iD ?_ ?_ | refine iQ ?_ ?_ | refine iV ?_ ?_) <;> intro _ | refine And.intro (by omega) ?_ | fail)
    generalize w6.setCell ⟨kx, 4, none⟩ (.int .i64 R) = w7 at *
    refine vc_loop W18_1 (fun k : Nat => [(20, .int .i64 (k : Int))]) (fun k w' => k ≤ p.pl.length ∧ Later w2 w' ∧ OwnN w' w2.heap.size ov ((L.take i).map (fun x => bestD d p q fl x p.pl.length)) ∧ Blk w' kx (pnC (bestD d p q fl x k)).toArray 49) (fun k => p.pl.length - k) 0 (by decide) ?_ ?_ ?_
    · simp (disch := omega) only [push_cast, ↓reduceIte, zA, zG, zB, zH, zI, zC, zJ, zK, zL, zD, zE, zF, zM, zN, zO, zP, zQ, reduceCtorEq, not_true_eq_false, not_false_eq_true]
      try rfl
    · exact ⟨Nat.zero_le _, l27, ho7, B7⟩
    rintro k uu2 w8 ⟨hk, l8, ho8, B8⟩
    obtain ⟨_, _, _, fp⟩ := FF w8 (l2.trans l8)
    rw [hpv] at fp
    by_cases hkp : k < p.pl.length
    · have hd3 : decide ((k : Int) < (p.pl.length : Int)) = true := decide_eq_true (by omega)
      obtain ⟨fx8, _⟩ := hFA w8 l8
      have hsd := bestD_succ d p q fl x k
      unfold stepD at hsd
      have hpg : p.pl.getD k default = p.pl[k] := by rw [List.getD_eq_getElem?_getD, List.getElem?_eq_getElem hkp]; rfl
      rw [hpg] at hsd
      repeat' (first | (simp (disch := omega) only [push_cast, ↓reduceIte, zA, zG, zB, zH, zI, zC, zJ, zK, zL, zD, zE, zF, zM, zN, zO, zP, zQ, reduceCtorEq, not_true_eq_false, not_false_eq_true, fp, hd3, hd2, fx8, addr_add_eq, Nat.zero_add]) | (first | refine iE ?_ ?_ | refine iD ?_ ?_ | refine iQ ?_ ?_ | refine iV ?_ ?_) <;> intro _ | refine And.intro (by omega) ?_ | fail)
      refine vStore_new rfl rfl (fun u hu => pnC_one x u (by simpa using hu)) ?_
      have l9 := later_alloc w8 (.cells (pnC x).toArray 49)
      have B9 := Blk.new w8 (pnC x).toArray 49
      have hkxy := B8.lt
      have hky : w2.heap.size ≤ w8.heap.size := l8.size
      have hlty := World.ownsRow.lt ho8
      have ho9 := ho8.later l9
      have B8 := B8.chg (Chg.of_later (ks := []) l9) (by simp)
      generalize w8.alloc (.cells (pnC x).toArray 49) = w9 at *
      generalize w8.heap.size = ky at *
      have l29 := l8.trans l9
      have hoffy : ∀ k ∈ [ky], ov.ownBlock ≠ some k := by intro k hk; rw [List.mem_singleton.1 hk]; intro h; have := hlty ky h; omega
      obtain ⟨_, _, _, y3, _⟩ := pnB B9
      have fz9 := B9.frozen 3
      have B10 := B9.set 3 (.int .i64 (k : Int))
      have c10 : Chg w9 (w9.setCell ⟨ky, 3, none⟩ (.int .i64 (k : Int))) [ky] := chg_setCell w9 (by simp) _
      repeat' (first | (simp (disch := omega) only [push_cast, ↓reduceIte, zA, zG, zB, zH, zI, zC, zJ, zK, zL, zD, zE, zF, zM, zN, zO, zP, zQ, reduceCtorEq, not_true_eq_false, not_false_eq_true, y3, fz9, addr_add_eq, Nat.zero_add]) | (first | refine iE ?_ ?_ | refine iD ?_ ?_ | refine iQ ?_ ?_ | refine iV ?_ ?_) <;> intro _ | refine And.intro (by omega) ?_ | fail)
      have B10 : Blk (w9.setCell ⟨ky, 3, none⟩ (.int .i64 (k : Int))) ky (pnC { x with proj := (k : Int) }).toArray 49 := B10
      generalize w9.setCell ⟨ky, 3, none⟩ (.int .i64 (k : Int)) = w10 at *
      have l210 := Chg.later l29 c10 (by intro j hj; rw [List.mem_singleton.1 hj]; exact hky)
      have ho10 : OwnN w10 w2.heap.size ov _ := own_off ho9 c10 hoffy
      have B8 := B8.chg c10 (by simp; omega)
      obtain ⟨_, _, y2, _, _⟩ := pnB B10
      have y2 : w10.cell? ⟨ky, 2, none⟩ = some (.int .i64 x.tier) := y2
      repeat' (first | (simp (disch := omega) only [push_cast, ↓reduceIte, zA, zG, zB, zH, zI, zC, zJ, zK, zL, zD, zE, zF, zM, zN, zO, zP, zQ, reduceCtorEq, not_true_eq_false, not_false_eq_true, y2, addr_add_eq, Nat.zero_add]) | (first | refine iE ?_ ?_ | refine iD ?_ ?_ | refine iQ ?_ ?_ | refine iV ?_ ?_) <;> intro _ | refine And.intro (by omega) ?_ | fail)
      refine (drows_c fv fl x.tier (k : Int) w10 (hf.later (l02.trans l210))).mono ?_
      rintro _ w11 ⟨rfl, l11⟩
      unfold rowsV
      have B11 := B10.chg (Chg.of_later (ks := []) l11) (by simp)
      have B8 := B8.chg (Chg.of_later (ks := []) l11) (by simp)
      have ho11 := ho10.later l11
      obtain ⟨_, _, _, _, y4⟩ := pnB B11
      have fz11 := B11.frozen 4
      have B12 := B11.set 4 (.int .i64 ((rowsF fl x.tier (k : Int)).getD 0))
      have c12 : Chg w11 (w11.setCell ⟨ky, 4, none⟩ (.int .i64 ((rowsF fl x.tier (k : Int)).getD 0))) [ky] := chg_setCell w11 (by simp) _
      have B12 : Blk (w11.setCell ⟨ky, 4, none⟩ (.int .i64 ((rowsF fl x.tier (k : Int)).getD 0))) ky (pnC { x with proj := (k : Int), rows := (rowsF fl x.tier (k : Int)).getD 0 }).toArray 49 := B12
      generalize hN : (rowsF fl x.tier (k : Int)).getD 0 = N at *
      generalize hS : (rowsF fl x.tier (k : Int)).isSome = S at *
      repeat' (first | (simp (disch := omega) only [push_cast, ↓reduceIte, zA, zG, zB, zH, zI, zC, zJ, zK, zL, zD, zE, zF, zM, zN, zO, zP, zQ, reduceCtorEq, not_true_eq_false, not_false_eq_true, y4, fz11, addr_add_eq, Nat.zero_add]) | (first | refine iE ?_ ?_ | refine iD ?_ ?_ | refine iQ ?_ ?_ | refine iV ?_ ?_) <;> intro _ | refine And.intro (by omega) ?_ | fail)
      generalize w11.setCell ⟨ky, 4, none⟩ (.int .i64 N) = w12 at *
      have l212 := Chg.later (l210.trans l11) c12 (by intro j hj; rw [List.mem_singleton.1 hj]; exact hky)
      have ho12 : OwnN w12 w2.heap.size ov _ := own_off ho11 c12 hoffy
      have B8 := B8.chg c12 (by simp; omega)
      obtain ⟨f1, f2, f3, fp⟩ := FF w12 (l2.trans l212)
      rw [hpv] at fp
      have h4 := (hp.later (l02.trans l212)).pv
      rw [hpv] at h4
      obtain ⟨pa, rfl, _⟩ := RecS.at cdC_len h4 hkp
      have t0 := RecS.cell (j := 0) cdC_len h4 hkp rfl
      rw [addr_add_zero] at t0
      obtain ⟨_, _, y2, _, _⟩ := pnB B12
      have y2 : w12.cell? ⟨ky, 2, none⟩ = some (.int .i64 x.tier) := y2
      obtain ⟨_, _, _, _, x4⟩ := pnB B8
      have fy : cellsAt w12 ⟨ky, 0, none⟩ 5 = some (pnC { x with proj := (k : Int), rows := N }) := Blk.cellsAt (l := pnC { x with proj := (k : Int), rows := N }) B12
      generalize (p.pl[k]).a = PA at *
      have skip : ∀ w', Later w12 w' → (¬ ((PA = x.tier ∧ S = true ∧ N < (bestD d p q fl x k).rows) ∧ elB d p q { x with proj := (k : Int), rows := N } = true)) → k + 1 ≤ p.pl.length ∧ Later w2 w' ∧ OwnN w' w2.heap.size ov ((L.take i).map (fun x => bestD d p q fl x p.pl.length)) ∧ Blk w' kx (pnC (bestD d p q fl x (k + 1))).toArray 49 := by
        intro w' hl hn
        rw [if_neg hn] at hsd
        rw [hsd]
        exact ⟨by omega, l212.trans hl, ho12.later hl, B8.chg (Chg.of_later (ks := []) hl) (by simp)⟩
      by_cases q1 : PA = x.tier
      case neg =>
        have d1 := decide_eq_false q1
        repeat' (first | (simp (disch := omega) only [push_cast, ↓reduceIte, zA, zG, zB, zH, zI, zC, zJ, zK, zL, zD, zE, zF, zM, zN, zO, zP, zQ, reduceCtorEq, not_true_eq_false, not_false_eq_true, fp, t0, y2, d1, hd3, addr_add_eq, Nat.zero_add]) | (first | refine iE ?_ ?_ | refine iD ?_ ?_ | refine iQ ?_ ?_ | refine iV ?_ ?_) <;> intro _ | refine And.intro (by omega) ?_ | fail)
        refine drawn_q ?_
        repeat' (first | (simp (disch := omega) only [push_cast, ↓reduceIte, zA, zG, zB, zH, zI, zC, zJ, zK, zL, zD, zE, zF, zM, zN, zO, zP, zQ, reduceCtorEq, not_true_eq_false, not_false_eq_true, fp, t0, y2, d1, hd3, addr_add_eq, Nat.zero_add]) | (first | refine iE ?_ ?_ | refine iD ?_ ?_ | refine iQ ?_ ?_ | refine iV ?_ ?_) <;> intro _ | refine And.intro (by omega) ?_ | fail)
        intro w13 l13
        repeat' (first | (simp (disch := omega) only [push_cast, ↓reduceIte, zA, zG, zB, zH, zI, zC, zJ, zK, zL, zD, zE, zF, zM, zN, zO, zP, zQ, reduceCtorEq, not_true_eq_false, not_false_eq_true]) | (first | refine iE ?_ ?_ | refine iD ?_ ?_ | refine iQ ?_ ?_ | refine iV ?_ ?_) <;> intro _ | refine And.intro (by omega) ?_ | fail)
        exact ⟨rfl, k + 1, by simp (disch := omega) only [push_cast, ↓reduceIte, zA, zG, zB, zH, zI, zC, zJ, zK, zL, zD, zE, zF, zM, zN, zO, zP, zQ, reduceCtorEq, not_true_eq_false, not_false_eq_true], skip w13 l13 (fun h => q1 h.1.1), by dsimp only; omega⟩
      have d1 := decide_eq_true q1
      cases S with
      | false =>
        repeat' (first | (simp (disch := omega) only [push_cast, ↓reduceIte, zA, zG, zB, zH, zI, zC, zJ, zK, zL, zD, zE, zF, zM, zN, zO, zP, zQ, reduceCtorEq, not_true_eq_false, not_false_eq_true, fp, t0, y2, d1, hd3, addr_add_eq, Nat.zero_add]) | (first | refine iE ?_ ?_ | refine iD ?_ ?_ | refine iQ ?_ ?_ | refine iV ?_ ?_) <;> intro _ | refine And.intro (by omega) ?_ | fail)
        refine drawn_q ?_
        repeat' (first | (simp (disch := omega) only [push_cast, ↓reduceIte, zA, zG, zB, zH, zI, zC, zJ, zK, zL, zD, zE, zF, zM, zN, zO, zP, zQ, reduceCtorEq, not_true_eq_false, not_false_eq_true, fp, t0, y2, d1, hd3, addr_add_eq, Nat.zero_add]) | (first | refine iE ?_ ?_ | refine iD ?_ ?_ | refine iQ ?_ ?_ | refine iV ?_ ?_) <;> intro _ | refine And.intro (by omega) ?_ | fail)
        intro w13 l13
        repeat' (first | (simp (disch := omega) only [push_cast, ↓reduceIte, zA, zG, zB, zH, zI, zC, zJ, zK, zL, zD, zE, zF, zM, zN, zO, zP, zQ, reduceCtorEq, not_true_eq_false, not_false_eq_true]) | (first | refine iE ?_ ?_ | refine iD ?_ ?_ | refine iQ ?_ ?_ | refine iV ?_ ?_) <;> intro _ | refine And.intro (by omega) ?_ | fail)
        exact ⟨rfl, k + 1, by simp (disch := omega) only [push_cast, ↓reduceIte, zA, zG, zB, zH, zI, zC, zJ, zK, zL, zD, zE, zF, zM, zN, zO, zP, zQ, reduceCtorEq, not_true_eq_false, not_false_eq_true], skip w13 l13 (fun h => by cases h.1.2.1), by dsimp only; omega⟩
      | true =>
      by_cases q3 : N < (bestD d p q fl x k).rows
      case neg =>
        have d3 : decide ((bestD d p q fl x k).rows ≤ N) = true := decide_eq_true (by omega)
        repeat' (first | (simp (disch := omega) only [push_cast, ↓reduceIte, zA, zG, zB, zH, zI, zC, zJ, zK, zL, zD, zE, zF, zM, zN, zO, zP, zQ, reduceCtorEq, not_true_eq_false, not_false_eq_true, fp, t0, y2, d1, d3, hd3, x4, addr_add_eq, Nat.zero_add]) | (first | refine iE ?_ ?_ | refine iD ?_ ?_ | refine iQ ?_ ?_ | refine iV ?_ ?_) <;> intro _ | refine And.intro (by omega) ?_ | fail)
        refine drawn_q ?_
        repeat' (first | (simp (disch := omega) only [push_cast, ↓reduceIte, zA, zG, zB, zH, zI, zC, zJ, zK, zL, zD, zE, zF, zM, zN, zO, zP, zQ, reduceCtorEq, not_true_eq_false, not_false_eq_true, fp, t0, y2, d1, d3, hd3, x4, addr_add_eq, Nat.zero_add]) | (first | refine iE ?_ ?_ | refine iD ?_ ?_ | refine iQ ?_ ?_ | refine iV ?_ ?_) <;> intro _ | refine And.intro (by omega) ?_ | fail)
        intro w13 l13
        repeat' (first | (simp (disch := omega) only [push_cast, ↓reduceIte, zA, zG, zB, zH, zI, zC, zJ, zK, zL, zD, zE, zF, zM, zN, zO, zP, zQ, reduceCtorEq, not_true_eq_false, not_false_eq_true]) | (first | refine iE ?_ ?_ | refine iD ?_ ?_ | refine iQ ?_ ?_ | refine iV ?_ ?_) <;> intro _ | refine And.intro (by omega) ?_ | fail)
        exact ⟨rfl, k + 1, by simp (disch := omega) only [push_cast, ↓reduceIte, zA, zG, zB, zH, zI, zC, zJ, zK, zL, zD, zE, zF, zM, zN, zO, zP, zQ, reduceCtorEq, not_true_eq_false, not_false_eq_true], skip w13 l13 (fun h => q3 h.1.2.2), by dsimp only; omega⟩
      have d3 : decide ((bestD d p q fl x k).rows ≤ N) = false := decide_eq_false (by omega)
      repeat' (first | (simp (disch := omega) only [push_cast, ↓reduceIte, zA, zG, zB, zH, zI, zC, zJ, zK, zL, zD, zE, zF, zM, zN, zO, zP, zQ, reduceCtorEq, not_true_eq_false, not_false_eq_true, fp, t0, y2, d1, d3, hd3, x4, addr_add_eq, Nat.zero_add]) | (first | refine iE ?_ ?_ | refine iD ?_ ?_ | refine iQ ?_ ?_ | refine iV ?_ ?_) <;> intro _ | refine And.intro (by omega) ?_ | fail)
      refine drawn_q ?_
      repeat' (first | (simp (disch := omega) only [push_cast, ↓reduceIte, zA, zG, zB, zH, zI, zC, zJ, zK, zL, zD, zE, zF, zM, zN, zO, zP, zQ, reduceCtorEq, not_true_eq_false, not_false_eq_true, fp, t0, y2, d1, d3, hd3, x4, addr_add_eq, Nat.zero_add]) | (first | refine iE ?_ ?_ | refine iD ?_ ?_ | refine iQ ?_ ?_ | refine iV ?_ ?_) <;> intro _ | refine And.intro (by omega) ?_ | fail)
      intro w13 l13
      have l213 := l212.trans l13
      obtain ⟨f1, f2, f3, _⟩ := FF w13 (l2.trans l213)
      have fy13 := cellsAt_later l13 5 fy
      repeat' (first | (simp (disch := omega) only [push_cast, ↓reduceIte, zA, zG, zB, zH, zI, zC, zJ, zK, zL, zD, zE, zF, zM, zN, zO, zP, zQ, reduceCtorEq, not_true_eq_false, not_false_eq_true, f1, f2, f3, fy13]) | (first | refine iE ?_ ?_ | refine iD ?_ ?_ | refine iQ ?_ ?_ | refine iV ?_ ?_) <;> intro _ | refine And.intro (by omega) ?_ | fail)
      have l013 := l02.trans l213
      refine (deligible_c dv mv d m p q { x with proj := (k : Int), rows := N } w13 (h.later l013) (hp.later l013) (hq.later l013) ⟨hxin.t, by show (-1 : Int) ≤ (k : Int) ∧ (k : Int) < _; omega⟩ hi hxf hxt).mono ?_
      rintro _ w14 ⟨rfl, l14'⟩
      have fy14 := cellsAt_later l14' 5 fy13
      cases hee : elB d p q { x with proj := (k : Int), rows := N } with
      | false =>
        repeat' (first | (simp (disch := omega) only [push_cast, ↓reduceIte, zA, zG, zB, zH, zI, zC, zJ, zK, zL, zD, zE, zF, zM, zN, zO, zP, zQ, reduceCtorEq, not_true_eq_false, not_false_eq_true]) | (first | refine iE ?_ ?_ | refine iD ?_ ?_ | refine iQ ?_ ?_ | refine iV ?_ ?_) <;> intro _ | refine And.intro (by omega) ?_ | fail)
        exact ⟨rfl, k + 1, by simp (disch := omega) only [push_cast, ↓reduceIte, zA, zG, zB, zH, zI, zC, zJ, zK, zL, zD, zE, zF, zM, zN, zO, zP, zQ, reduceCtorEq, not_true_eq_false, not_false_eq_true], skip w14 (l13.trans l14') (fun h => by rw [hee] at h; cases h.2), by dsimp only; omega⟩
      | true =>
        rw [if_pos ⟨⟨q1, rfl, q3⟩, hee⟩] at hsd
        have B14 := B8.chg (Chg.of_later (ks := []) (l13.trans l14')) (by simp)
        have ho14 := ho12.later (l13.trans l14')
        generalize ({ x with proj := (k : Int), rows := N } : PN) = Y at *
        repeat' (first | (simp (disch := omega) only [push_cast, ↓reduceIte, zA, zG, zB, zH, zI, zC, zJ, zK, zL, zD, zE, zF, zM, zN, zO, zP, zQ, reduceCtorEq, not_true_eq_false, not_false_eq_true, fy14]) | (first | refine iE ?_ ?_ | refine iD ?_ ?_ | refine iQ ?_ ?_ | refine iV ?_ ?_) <;> intro _ | refine And.intro (by omega) ?_ | fail)
        refine vStore_blk (l := pnC (bestD d p q fl x k)) (xs := pnC Y) B14 rfl rfl (pnC_one _) ?_
        intro w15 B15 c15
        have l15' := Chg.later (l213.trans l14') c15 (by intro j hj; rw [List.mem_singleton.1 hj]; exact hkx2)
        repeat' (first | (simp (disch := omega) only [push_cast, ↓reduceIte, zA, zG, zB, zH, zI, zC, zJ, zK, zL, zD, zE, zF, zM, zN, zO, zP, zQ, reduceCtorEq, not_true_eq_false, not_false_eq_true]) | (first | refine iE ?_ ?_ | refine iD ?_ ?_ | refine iQ ?_ ?_ | refine iV ?_ ?_) <;> intro _ | refine And.intro (by omega) ?_ | fail)
        exact ⟨rfl, k + 1, by simp (disch := omega) only [push_cast, ↓reduceIte, zA, zG, zB, zH, zI, zC, zJ, zK, zL, zD, zE, zF, zM, zN, zO, zP, zQ, reduceCtorEq, not_true_eq_false, not_false_eq_true], ⟨by omega, l15', own_off ho14 c15 hoff, by rw [hsd]; exact B15⟩, by dsimp only; omega⟩
    · have hd3 : decide ((k : Int) < (p.pl.length : Int)) = false := decide_eq_false (by omega)
      obtain rfl : k = p.pl.length := by omega
      have fb : cellsAt w8 ⟨kx, 0, none⟩ 5 = some (pnC (bestD d p q fl x p.pl.length)) := Blk.cellsAt (l := pnC (bestD d p q fl x p.pl.length)) B8
      generalize bestD d p q fl x p.pl.length = X at *
      repeat' (first | (simp (disch := omega) only [push_cast, ↓reduceIte, zA, zG, zB, zH, zI, zC, zJ, zK, zL, zD, zE, zF, zM, zN, zO, zP, zQ, reduceCtorEq, not_true_eq_false, not_false_eq_true, fp, hd3, fb, addr_add_eq, Nat.zero_add]) | (first | refine iE ?_ ?_ | refine iD ?_ ?_ | refine iQ ?_ ?_ | refine iV ?_ ?_) <;> intro _ | refine And.intro (by omega) ?_ | fail)
      have la := later_alloc w8 (.cells (pnC X).toArray 49)
      have Bl := Blk.new w8 (pnC X).toArray 49
      generalize w8.alloc (.cells (pnC X).toArray 49) = w9 at *
      have ho9 := ho8.later la
      refine vAppend_pn (r := [X]) ho9 (RecS.lit1 (pnC_len X) Bl) (by simp only [List.length_map, List.length_take, List.length_cons, List.length_nil]; omega) (Nat.le_trans l8.size la.size) ?_
      intro v' w10 ho10 hg _
      have l10 := (l8.trans la).appended ho9 (Nat.le_refl _) hg
      repeat' (first | (simp (disch := omega) only [push_cast, ↓reduceIte, zA, zG, zB, zH, zI, zC, zJ, zK, zL, zD, zE, zF, zM, zN, zO, zP, zQ, reduceCtorEq, not_true_eq_false, not_false_eq_true]) | (first | refine iE ?_ ?_ | refine iD ?_ ?_ | refine iQ ?_ ?_ | refine iV ?_ ?_) <;> intro _ | refine And.intro (by omega) ?_ | fail)
      refine ⟨rfl, (i + 1, v'), by simp (disch := omega) only [push_cast, ↓reduceIte, zA, zG, zB, zH, zI, zC, zJ, zK, zL, zD, zE, zF, zM, zN, zO, zP, zQ, reduceCtorEq, not_true_eq_false, not_false_eq_true], ⟨by dsimp only; omega, l10, by dsimp only; rw [htk]; exact ho10, hEs hel'⟩, by dsimp only; omega⟩
  · have hd2 : decide ((i : Int) < (L.length : Int)) = false := decide_eq_false (by omega)
    rw [List.take_of_length_le (by omega)] at ho
    have hg : chooseR (elB d p q) (fun x => bestD d p q fl x p.pl.length) L = (L.map (fun x => bestD d p q fl x p.pl.length), -1, 0) := chooseR_good fun x hx => by
      obtain ⟨j, hj, rfl⟩ := List.getElem_of_mem hx
      exact hE j hj (by omega)
    rw [hg]
    repeat' (first | (simp (disch := omega) only [push_cast, ↓reduceIte, zA, zG, zB, zH, zI, zC, zJ, zK, zL, zD, zE, zF, zM, zN, zO, zP, zQ, reduceCtorEq, not_true_eq_false, not_false_eq_true, hd2]) | (first | refine iE ?_ ?_ | refine iD ?_ ?_ | refine iQ ?_ ?_ | refine iV ?_ ?_) <;> intro _ | refine And.intro (by omega) ?_ | fail)
    exact ⟨⟨_, rfl, OwnR.s ho⟩, l02.trans l3⟩
end Go.Proofs.Ytnofalhkapmcnaa
end
section
namespace Go.Vc
open Go
theorem ltN_iff {a b : PN} : ltN a b = true ↔ (a.rows < b.rows ∨ a.rows = b.rows ∧ a.proj < b.proj) := by
  unfold ltN; exact decide_eq_true_iff
theorem ltN_no {a b : PN} : ltN a b = false ↔ ¬ (a.rows < b.rows ∨ a.rows = b.rows ∧ a.proj < b.proj) := by
  unfold ltN; exact decide_eq_false_iff_not
theorem minN_spec : ∀ (l : List PN) (m : PN), minN m l ∈ m :: l ∧ ∀ y ∈ m :: l, ltN y (minN m l) = false
  | [], m => by
    refine ⟨by simp [minN], fun y hy => ?_⟩
    rw [List.mem_singleton.1 hy]
    show ltN m m = false
    exact ltN_no.2 (by omega)
  | x :: l, m => by
    have e : minN m (x :: l) = minN (if ltN x m then x else m) l := rfl
    rw [e]
    obtain ⟨h1, h2⟩ := minN_spec l (if ltN x m then x else m)
    generalize hM : minN (if ltN x m then x else m) l = M at *
    by_cases hc : ltN x m = true
    · rw [if_pos hc] at h1 h2
      rw [ltN_iff] at hc
      refine ⟨List.mem_cons_of_mem _ h1, fun y hy => ?_⟩
      rcases List.mem_cons.1 hy with rfl | hy
      · have := ltN_no.1 (h2 x List.mem_cons_self)
        exact ltN_no.2 (by omega)
      · exact h2 y hy
    · rw [if_neg hc] at h1 h2
      have hc := ltN_no.1 (by simpa using hc)
      refine ⟨?_, fun y hy => ?_⟩
      · rcases List.mem_cons.1 h1 with h | h
        · rw [h]; exact List.mem_cons_self
        · exact List.mem_cons_of_mem _ (List.mem_cons_of_mem _ h)
      · rcases List.mem_cons.1 hy with rfl | hy
        · exact h2 _ List.mem_cons_self
        · rcases List.mem_cons.1 hy with rfl | hy
          · have := ltN_no.1 (h2 m List.mem_cons_self)
            exact ltN_no.2 (by omega)
          · exact h2 y (List.mem_cons_of_mem _ hy)
/-- No two files of one cuboid. -/
def Apart (fl : List SD) : Prop := fl.Pairwise fun f g => ¬ (f.tier = g.tier ∧ f.proj = g.proj)
theorem isF_iff {t k : Int} {f : SD} : isF t k f = true ↔ f.tier = t ∧ f.proj = k := by simp [isF]
theorem rowsF_some {fl : List SD} {t k n : Int} (h : rowsF fl t k = some n) : ∃ f ∈ fl, f.tier = t ∧ f.proj = k ∧ f.rows = n := by
  unfold rowsF at h
  cases hf : fl.find? (isF t k) with
  | none => rw [hf] at h; cases h
  | some f =>
    rw [hf] at h
    have h := Option.some.inj h
    have h1 := List.find?_some hf
    exact ⟨f, List.mem_of_find?_eq_some hf, (isF_iff.1 h1).1, (isF_iff.1 h1).2, h⟩
theorem rowsF_of {fl : List SD} (ha : Apart fl) {f : SD} (hf : f ∈ fl) : rowsF fl f.tier f.proj = some f.rows := by
  induction fl with
  | nil => cases hf
  | cons g fl ih =>
    unfold Apart at ha
    rw [List.pairwise_cons] at ha
    unfold rowsF
    by_cases hg : g.tier = f.tier ∧ g.proj = f.proj
    · rw [List.find?_cons_of_pos (isF_iff.2 hg)]
      rcases List.mem_cons.1 hf with rfl | hf
      · rfl
      · exact absurd hg (ha.1 f hf)
    · rw [List.find?_cons_of_neg (by rw [isF_iff]; exact hg)]
      rcases List.mem_cons.1 hf with rfl | hf
      · exact absurd ⟨rfl, rfl⟩ hg
      · exact ih ha.2 hf
theorem ownRows_is {x : PN} : ∀ {fl : List SD} (r : Int), Apart fl → fl.foldl (fun r f => if f.tier = x.tier ∧ f.proj = -1 then f.rows else r) r = (rowsF fl x.tier (-1)).getD r := by
  intro fl
  induction fl with
  | nil => intro r _; rfl
  | cons g fl ih =>
    intro r ha
    unfold Apart at ha
    rw [List.pairwise_cons] at ha
    rw [List.foldl_cons, ih _ ha.2]
    by_cases hg : g.tier = x.tier ∧ g.proj = -1
    · rw [if_pos hg]
      have h1 : rowsF (g :: fl) x.tier (-1) = some g.rows := by
        unfold rowsF
        rw [List.find?_cons_of_pos (isF_iff.2 hg)]; rfl
      rw [h1]
      cases hr : rowsF fl x.tier (-1) with
      | none => rfl
      | some n =>
        obtain ⟨f, hf, h2, h3, _⟩ := rowsF_some hr
        exact absurd ⟨hg.1.trans h2.symm, hg.2.trans h3.symm⟩ (ha.1 f hf)
    · rw [if_neg hg]
      have h1 : rowsF (g :: fl) x.tier (-1) = rowsF fl x.tier (-1) := by
        unfold rowsF
        rw [List.find?_cons_of_neg (by rw [isF_iff]; exact hg)]
      rw [h1]
end Go.Vc
namespace Go.Proofs.Ytnofalhkapmcnaa
open Go.Vc Go.Key
/-- The plans that may be. -/
def MayB (d : List ByteArray) (p : PD) (q : QD) (fl : List SD) (x : PN) (n : Nat) (y : PN) : Prop :=
  y = { x with rows := (rowsF fl x.tier (-1)).getD 0 } ∨ ∃ f ∈ fl, f.tier = x.tier ∧ f.proj ≠ -1 ∧ f.proj < (n : Int) ∧ y = { x with proj := f.proj, rows := f.rows } ∧ elB d p q y = true
structure FilesIn (p : PD) (fl : List SD) : Prop where
  a : Apart fl
  j : ∀ f ∈ fl, -1 ≤ f.proj ∧ f.proj < (p.pl.length : Int)
  t : ∀ f ∈ fl, f.proj ≠ -1 → (p.pl.getD f.proj.toNat default).a = f.tier
theorem bestD_spec {d : List ByteArray} {p : PD} {q : QD} {fl : List SD} {x : PN} (hf : FilesIn p fl) (hx : x.proj = -1) : ∀ n : Nat, MayB d p q fl x n (bestD d p q fl x n) ∧ (∀ y, MayB d p q fl x n y → ltN y (bestD d p q fl x n) = false) ∧ (bestD d p q fl x n).proj < (n : Int) := by
  intro n
  induction n with
  | zero =>
    refine ⟨.inl rfl, fun y hy => ?_, by show x.proj < 0; omega⟩
    rcases hy with rfl | ⟨f, hfm, _, h1, h2, _⟩
    · exact ltN_no.2 (by show ¬ (_ < _ ∨ _); simp [bestD])
    · have := (hf.j f hfm).1; omega
  | succ n ih =>
    obtain ⟨h1, h2, h3⟩ := ih
    have hmono : ∀ y, MayB d p q fl x n y → MayB d p q fl x (n + 1) y := by
      rintro y (h | ⟨f, a, b, c, e, g⟩)
      · exact .inl h
      · exact .inr ⟨f, a, b, c, by omega, g⟩
    rw [bestD_succ]
    generalize bestD d p q fl x n = b at *
    unfold stepD
    split
    · rename_i hc
      obtain ⟨⟨c1, c2, c3⟩, c4⟩ := hc
      obtain ⟨N, hN⟩ : ∃ N, rowsF fl x.tier (n : Int) = some N := Option.isSome_iff_exists.1 c2
      rw [hN] at c3 c4
      rw [hN]
      simp only [Option.getD_some] at c3 c4 ⊢
      obtain ⟨f, hfm, f1, f2, f3⟩ := rowsF_some hN
      refine ⟨.inr ⟨f, hfm, f1, by omega, by omega, by rw [f2, f3], c4⟩, fun y hy => ?_, by show (n : Int) < _; omega⟩
      have hr : ∀ y, MayB d p q fl x n y → ltN y { x with proj := (n : Int), rows := N } = false := fun y hy => by
        have := ltN_no.1 (h2 y hy)
        exact ltN_no.2 (by show ¬ (y.rows < N ∨ y.rows = N ∧ y.proj < (n : Int)); omega)
      rcases hy with h | ⟨g, gm, g1, g2, g3, g4, g5⟩
      · exact hr y (.inl h)
      · by_cases hgn : g.proj < (n : Int)
        · exact hr y (.inr ⟨g, gm, g1, g2, hgn, g4, g5⟩)
        · have hgp : g.proj = (n : Int) := by omega
          have := rowsF_of hf.a gm
          rw [g1, hgp, hN] at this
          have := Option.some.inj this
          rw [g4]
          exact ltN_no.2 (by show ¬ (g.rows < N ∨ g.rows = N ∧ g.proj < (n : Int)); omega)
    · rename_i hc
      refine ⟨hmono _ h1, fun y hy => ?_, by omega⟩
      rcases hy with h | ⟨g, gm, g1, g2, g3, g4, g5⟩
      · exact h2 y (.inl h)
      · by_cases hgn : g.proj < (n : Int)
        · exact h2 y (.inr ⟨g, gm, g1, g2, hgn, g4, g5⟩)
        · have hgp : g.proj = (n : Int) := by omega
          have hr := rowsF_of hf.a gm
          rw [g1, hgp] at hr
          have ht := hf.t g gm g2
          rw [hgp, Int.toNat_natCast, g1] at ht
          subst g4
          refine ltN_no.2 fun hlt => hc ?_
          have hlt : g.rows < b.rows ∨ g.rows = b.rows ∧ g.proj < b.proj := hlt
          rw [hr]
          simp only [Option.getD_some, Option.isSome_some]
          rw [hgp] at g5
          exact ⟨⟨ht, trivial, by omega⟩, g5⟩
theorem bestS_is {d : List ByteArray} {p : PD} {q : QD} {fl : List SD} {x : PN} (hf : FilesIn p fl) (hx : x.proj = -1) (hr : x.rows = 0) : bestS d p q fl x = bestD d p q fl x p.pl.length := by
  obtain ⟨h1, h2, _⟩ := bestD_spec (d := d) (q := q) hf hx p.pl.length
  have ho : ownRows x fl = (rowsF fl x.tier (-1)).getD 0 := by
    unfold ownRows
    rw [ownRows_is _ hf.a, hr]
  have hm : ∀ y, MayB d p q fl x p.pl.length y ↔ y ∈ ({ x with rows := ownRows x fl } : PN) :: (projs x fl).filter (elB d p q) := by
    intro y
    rw [ho]
    constructor
    · rintro (rfl | ⟨f, fm, f1, f2, f3, rfl, f5⟩)
      · exact List.mem_cons_self
      · exact List.mem_cons_of_mem _ (List.mem_filter.2 ⟨List.mem_map.2 ⟨f, List.mem_filter.2 ⟨fm, decide_eq_true ⟨f1, f2⟩⟩, rfl⟩, f5⟩)
    · intro h
      rcases List.mem_cons.1 h with rfl | h
      · exact .inl rfl
      · obtain ⟨ha, hb⟩ := List.mem_filter.1 h
        obtain ⟨f, hfm, rfl⟩ := List.mem_map.1 ha
        obtain ⟨fm, fd⟩ := List.mem_filter.1 hfm
        have fd := of_decide_eq_true fd
        exact .inr ⟨f, fm, fd.1, fd.2, (hf.j f fm).2, rfl, hb⟩
  obtain ⟨k1, k2⟩ := minN_spec ((projs x fl).filter (elB d p q)) { x with rows := ownRows x fl }
  have hb : minN { x with rows := ownRows x fl } ((projs x fl).filter (elB d p q)) = bestS d p q fl x := rfl
  rw [hb] at k1 k2
  have e1 := ltN_no.1 (h2 _ ((hm _).2 k1))
  have e2 := ltN_no.1 (k2 _ ((hm _).1 h1))
  have shape : ∀ y, MayB d p q fl x p.pl.length y → y = { x with proj := y.proj, rows := y.rows } := by
    rintro y (rfl | ⟨f, _, _, _, _, rfl, _⟩) <;> rfl
  rw [shape _ ((hm _).2 k1), shape _ h1]
  have r1 : (bestS d p q fl x).rows = (bestD d p q fl x p.pl.length).rows := by omega
  have r2 : (bestS d p q fl x).proj = (bestD d p q fl x p.pl.length).proj := by omega
  rw [r1, r2]
end Go.Proofs.Ytnofalhkapmcnaa
end
