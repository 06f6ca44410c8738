/- The conditions, the dimensions' names in a query, those that it uses: the program's. -/
import Derived.Sort.Grow
import Derived.Lib.SlicesCompact
import Derived.Shelf.Strings.IndexAnyAll
import Derived.Shelf.Small.Utf8
import Derived.WalkMore
import Derived.Handy
import Derived.Lib.BufferKept
import Derived.Deep.DeepBigQuietO
import Derived.Shelf.Strings.Search1
import Derived.Laws.Runes
import Derived.Laws.RangeAny
import Derived.Shelf.Sort.Plain
import Derived.Shelf.GgClosure.StringsRunes
import Derived.Shelf.Strings.FuncGrows
import Derived.Shelf.Slices.Cells
import Derived.Shelf.Slices.In.SortNone
import Derived.Test.YtnofalhkapmcnaaGreatProg
import Derived.Test.YtnofalhkapmcnaaGreatPartH
set_option linter.all false
open Nat renaming reduceEqDiff → zA, reducePow → zB, reduceMul → zC, reduceAdd → zD, reduceSub → zE, reduceLeDiff → zF
open Int renaming reduceToNat → zG, reducePow → zH, reduceNeg → zI, reduceMul → zJ, reduceAdd → zK, reduceSub → zL, reduceLT → zM, reduceLE → zN, reduceEq → zO, reduceMod → zP, reduceDiv → zQ
section
set_option linter.unusedSimpArgs false
namespace Go.Proofs.YtnofalhkapmcnaaGreat
open Go.Vc Go.Key
set_option maxRecDepth 100000
theorem conditions_c (f : FT) (w : World) (hf : f.Ok w) (hcn : f.cnt ≤ 1000000) : FnC Tryz.prog 90 #[.agg (ftC f).toArray] w fun v w' => OwnR ftC 4 w' w.heap.size 29 v f.conds ∧ Later w w' := by
  refine enter90 _ ?_
  unfold B90
  have eca : (Value.agg (ftC f).toArray).cells = (ftC f).toArray := rfl
  obtain ⟨l1, s1, B1⟩ := ftBox w f
  repeat' (first | (simp (disch := omega) only [push_cast, ↓reduceIte, zA, zG, zB, zH, zI, zC, zJ, zK, zL, zD, zE, zF, zM, zN, zO, zP, zQ, reduceCtorEq, not_true_eq_false, not_false_eq_true, eca, s1]) | (first | refine iE ?_ ?_ | refine iD ?_ ?_ | refine iQ ?_ ?_ | refine iV ?_ ?_) <;> intro _ | refine And.intro (by omega) ?_ | fail)
  generalize w.alloc (.cells (ftC f).toArray 29) = w1 at *
  have l2 := later_alloc w1 (.cells #[.slice none 0 0] 27)
  have s2 : (w1.alloc (.cells #[.slice none 0 0] 27)).heap.size = w.heap.size + 2 := by rw [World.size_alloc, s1]
  have Bo := Blk.new w1 #[.slice none 0 0] 27
  rw [s1] at Bo
  generalize w1.alloc (.cells #[.slice none 0 0] 27) = w2 at *
  repeat' (first | (simp (disch := omega) only [push_cast, ↓reduceIte, zA, zG, zB, zH, zI, zC, zJ, zK, zL, zD, zE, zF, zM, zN, zO, zP, zQ, reduceCtorEq, not_true_eq_false, not_false_eq_true, s2]) | (first | refine iE ?_ ?_ | refine iD ?_ ?_ | refine iQ ?_ ?_ | refine iV ?_ ?_) <;> intro _ | refine And.intro (by omega) ?_ | fail)
  have l3 := later_alloc w2 (.cells #[.func (.func 125) #[] #[.pointer (some ⟨w.heap.size + 1, 0, none⟩), .pointer (some ⟨w.heap.size + 2, 0, none⟩)]] 136)
  have Bw := Blk.new w2 #[.func (.func 125) #[] #[.pointer (some ⟨w.heap.size + 1, 0, none⟩), .pointer (some ⟨w.heap.size + 2, 0, none⟩)]] 136
  rw [s2] at Bw
  generalize w2.alloc (.cells #[.func (.func 125) #[] #[.pointer (some ⟨w.heap.size + 1, 0, none⟩), .pointer (some ⟨w.heap.size + 2, 0, none⟩)]] 136) = w3 at *
  have l13 := l2.trans l3
  have l03 := l1.trans l13
  have f1 : cellsAt w3 ⟨w.heap.size, 0, none⟩ 4 = some (ftC f) := Blk.cellsAt (l := ftC f) (ftLater B1 l13)
  have Bo3 := Bo.chg (Chg.of_later (ks := []) l3) (by simp)
  have fw : w3.cell? ⟨w.heap.size + 2, 0, none⟩ = some (.func (.func 125) #[] #[.pointer (some ⟨w.heap.size + 1, 0, none⟩), .pointer (some ⟨w.heap.size + 2, 0, none⟩)]) := Bw.cell 0
  repeat' (first | (simp (disch := omega) only [push_cast, ↓reduceIte, zA, zG, zB, zH, zI, zC, zJ, zK, zL, zD, zE, zF, zM, zN, zO, zP, zQ, reduceCtorEq, not_true_eq_false, not_false_eq_true, f1, fw]) | (first | refine iE ?_ ?_ | refine iD ?_ ?_ | refine iQ ?_ ?_ | refine iV ?_ ?_) <;> intro _ | refine And.intro (by omega) ?_ | fail)
  refine (walk_c (w0 := w) (ko := w.heap.size + 1) (kw := w.heap.size + 2) f [] w3 hf ⟨l03, by omega, by omega, ⟨_, Bo3, own_nil _ _ _ _⟩, Bw⟩ (by simp; omega)).mono ?_
  rintro v4 w4 ⟨l4, _, _, ⟨ov, Bo4, ho⟩, _⟩
  have f4 : w4.cell? ⟨w.heap.size + 1, 0, none⟩ = some ov := Bo4.cell 0
  rw [List.nil_append] at ho
  repeat' (first | (simp (disch := omega) only [push_cast, ↓reduceIte, zA, zG, zB, zH, zI, zC, zJ, zK, zL, zD, zE, zF, zM, zN, zO, zP, zQ, reduceCtorEq, not_true_eq_false, not_false_eq_true, f4]) | (first | refine iE ?_ ?_ | refine iD ?_ ?_ | refine iQ ?_ ?_ | refine iV ?_ ?_) <;> intro _ | refine And.intro (by omega) ?_ | refine drawn_q ?_ | fail)
  first | exact ⟨ho, l4⟩ | exact l4
theorem conds_at {f : FT} {w : World} (hf : f.Ok w) {i : Nat} (hi : i < f.conds.length) : (f.conds[i]).Ok w := FT.conds_ok f hf _ (List.getElem_mem hi)
set_option maxHeartbeats 1000000 in
theorem tdims_c (q : QD) (w : World) (hq : q.Ok w) (hcn : q.wh.cnt ≤ 1000000) (hbl : q.bl.length ≤ 1000) : FnC Tryz.prog 48 #[.agg (qdC q).toArray] w fun v w' => OwnS w' w.heap.size v (q.bl ++ q.wh.dims) ∧ Later w w' := by
  refine enter48 _ ?_
  unfold B48
  have eca : (Value.agg (qdC q).toArray).cells = (qdC q).toArray := rfl
  have B1 := Blk.new w (qdC q).toArray 32
  have l1 := later_alloc w (.cells (qdC q).toArray 32)
  repeat' (first | (simp (disch := omega) only [push_cast, ↓reduceIte, zA, zG, zB, zH, zI, zC, zJ, zK, zL, zD, zE, zF, zM, zN, zO, zP, zQ, reduceCtorEq, not_true_eq_false, not_false_eq_true, eca]) | (first | refine iE ?_ ?_ | refine iD ?_ ?_ | refine iQ ?_ ?_ | refine iV ?_ ?_) <;> intro _ | refine And.intro (by omega) ?_ | fail)
  generalize w.alloc (.cells (qdC q).toArray 32) = w1 at *
  generalize hkf : w.heap.size = kf at *
  have q1 := hq.later l1
  obtain ⟨_, _, _, _, a4, _⟩ := qdAt B1
  repeat' (first | (simp (disch := omega) only [push_cast, ↓reduceIte, zA, zG, zB, zH, zI, zC, zJ, zK, zL, zD, zE, zF, zM, zN, zO, zP, zQ, reduceCtorEq, not_true_eq_false, not_false_eq_true, a4, addr_add_eq, Nat.zero_add]) | (first | refine iE ?_ ?_ | refine iD ?_ ?_ | refine iQ ?_ ?_ | refine iV ?_ ?_) <;> intro _ | refine And.intro (by omega) ?_ | fail)
  refine (sclone_c q.bv q.bl w1 q1.bv (by omega)).mono ?_
  rintro bv w2 ⟨ho2, l2⟩
  obtain ⟨_, _, _, _, _, b5, b6, b7, b8, _⟩ := qdAt (qdLater B1 l2)
  have fw : cellsAt w2 ⟨kf, 5, none⟩ 4 = some (ftC q.wh) := by
    refine cellsAt_of 4 _ _ rfl fun i x hx => ?_
    rw [addr_add_eq]
    match i, hx with
    | 0, hx => cases hx; exact b5
    | 1, hx => cases hx; exact b6
    | 2, hx => cases hx; exact b7
    | 3, hx => cases hx; exact b8
    | n + 4, hx => exact absurd hx (by simp [ftC])
  repeat' (first | (simp (disch := omega) only [push_cast, ↓reduceIte, zA, zG, zB, zH, zI, zC, zJ, zK, zL, zD, zE, zF, zM, zN, zO, zP, zQ, reduceCtorEq, not_true_eq_false, not_false_eq_true, fw, addr_add_eq, Nat.zero_add]) | (first | refine iE ?_ ?_ | refine iD ?_ ?_ | refine iQ ?_ ?_ | refine iV ?_ ?_) <;> intro _ | refine And.intro (by omega) ?_ | fail)
  have l12 := l1.trans l2
  have hwh := hq.wh.later l12
  refine (conditions_c q.wh w2 hwh hcn).mono ?_
  rintro cv w3 ⟨hc3, l3⟩
  have hcl := FT.conds_cnt q.wh
  have hcr := OwnR.s hc3
  obtain ⟨o, c, rfl, hc1, hc2⟩ := RecS.slice hcr
  have hok := fun (i : Nat) (hi : i < q.wh.conds.length) => conds_at q1.wh hi
  have hds := FT.conds_dims q.wh
  generalize q.wh.conds = cs at *
  repeat' (first | (simp (disch := omega) only [push_cast, ↓reduceIte, zA, zG, zB, zH, zI, zC, zJ, zK, zL, zD, zE, zF, zM, zN, zO, zP, zQ, reduceCtorEq, not_true_eq_false, not_false_eq_true]) | (first | refine iE ?_ ?_ | refine iD ?_ ?_ | refine iQ ?_ ?_ | refine iV ?_ ?_) <;> intro _ | refine And.intro (by omega) ?_ | refine drawn_q ?_ | fail)
  refine vc_loop W48_0 (fun p : Nat × Value => [(3, p.2), (13, .int .i64 (p.1 : Int))]) (fun p w' => p.1 ≤ cs.length ∧ Later w1 w' ∧ OwnS w' w1.heap.size p.2 (q.bl ++ (cs.take p.1).map FT.dim) ∧ OwnR ftC 4 w' w2.heap.size 29 (.slice o cs.length c) cs) (fun p => cs.length - p.1) (0, bv) (by decide) ?_ ?_ ?_
  · simp (disch := omega) only [push_cast, ↓reduceIte, zA, zG, zB, zH, zI, zC, zJ, zK, zL, zD, zE, zF, zM, zN, zO, zP, zQ, reduceCtorEq, not_true_eq_false, not_false_eq_true]
    try rfl
  · exact ⟨Nat.zero_le _, l2.trans l3, by simpa using own_later ho2 l3, hc3⟩
  rintro ⟨i, x⟩ uu w4 ⟨hi, l4, ho, hC⟩
  dsimp only at hi ho ⊢
  by_cases hik : i < cs.length
  · have hd2 : decide ((i : Int) < (cs.length : Int)) = true := decide_eq_true (by omega)
    obtain ⟨a, rfl, fa⟩ := RecS.at ftC_len (OwnR.s hC) hik
    have hk := (hok i hik).later l4
    have hst : (cs.take (i + 1)).map FT.dim = (cs.take i).map FT.dim ++ [(cs[i]).dim] := by
      rw [List.take_succ_eq_append_getElem hik, List.map_append]; rfl
    generalize cs[i] = kid at *
    repeat' (first | (simp (disch := omega) only [push_cast, ↓reduceIte, zA, zG, zB, zH, zI, zC, zJ, zK, zL, zD, zE, zF, zM, zN, zO, zP, zQ, reduceCtorEq, not_true_eq_false, not_false_eq_true, hd2, fa, addr_add_eq, Nat.zero_add]) | (first | refine iE ?_ ?_ | refine iD ?_ ?_ | refine iQ ?_ ?_ | refine iV ?_ ?_) <;> intro _ | refine And.intro (by omega) ?_ | refine drawn_q ?_ | fail)
    refine vStore_new rfl rfl (fun u hu => ftC_one hk u (by simpa using hu)) ?_
    have l5 := later_alloc w4 (.cells (ftC kid).toArray 29)
    have B5 := Blk.new w4 (ftC kid).toArray 29
    generalize w4.alloc (.cells (ftC kid).toArray 29) = w5 at *
    generalize w4.heap.size = k4 at *
    obtain ⟨_, c1, _, _⟩ := ftAt B5
    repeat' (first | (simp (disch := omega) only [push_cast, ↓reduceIte, zA, zG, zB, zH, zI, zC, zJ, zK, zL, zD, zE, zF, zM, zN, zO, zP, zQ, reduceCtorEq, not_true_eq_false, not_false_eq_true, c1, addr_add_eq, Nat.zero_add]) | (first | refine iE ?_ ?_ | refine iD ?_ ?_ | refine iQ ?_ ?_ | refine iV ?_ ?_) <;> intro _ | refine And.intro (by omega) ?_ | refine drawn_q ?_ | fail)
    have ho5 := own_later ho l5
    have hll : (q.bl ++ (cs.take i).map FT.dim).length ≤ 2000000 := by
      rw [List.length_append, List.length_map, List.length_take]; omega
    have hC5 := hC.later l5
    have l15 := l4.trans l5
    have l7 := later_alloc w5 (.cells #[.string kid.dim] 9)
    have hx7 := Sl.one w5 (.string kid.dim) 9
    generalize w5.alloc (.cells #[.string kid.dim] 9) = w7 at *
    replace ho5 := own_later ho5 l7
    replace hC5 := hC5.later l7
    replace l15 := l15.trans l7
    have hx7 : SlN w7 1 (.slice (some ⟨w5.heap.size, 0, none⟩) 1 1) 1 [.string kid.dim] := hx7
    refine vAppend_own Tryz.underlying22 ti9 rfl (by decide) ho5 hx7 (fun u hu => by rw [List.mem_singleton.1 hu]; rfl) (by unfold maxLen; omega) (by omega) l15.size ?_
    intro v' w' ho' hg _
    have l6 : Later w1 w' := l15.appended ho5 (Nat.le_refl _) hg
    have ho6 : OwnS w' w1.heap.size v' (q.bl ++ (cs.take (i + 1)).map FT.dim) := by
      rw [hst, ← List.append_assoc]
      unfold OwnS
      simpa [Nat.add_assoc] using ho'
    have hC6 : OwnR ftC 4 w' w2.heap.size 29 (.slice (some a) cs.length c) cs := own_grown_ty hC5 ho5 (by decide) hg
    repeat' (first | (simp (disch := omega) only [push_cast, ↓reduceIte, zA, zG, zB, zH, zI, zC, zJ, zK, zL, zD, zE, zF, zM, zN, zO, zP, zQ, reduceCtorEq, not_true_eq_false, not_false_eq_true]) | (first | refine iE ?_ ?_ | refine iD ?_ ?_ | refine iQ ?_ ?_ | refine iV ?_ ?_) <;> intro _ | refine And.intro (by omega) ?_ | refine drawn_q ?_ | fail)
    exact ⟨rfl, (i + 1, v'), by simp (disch := omega) only [push_cast, ↓reduceIte, zA, zG, zB, zH, zI, zC, zJ, zK, zL, zD, zE, zF, zM, zN, zO, zP, zQ, reduceCtorEq, not_true_eq_false, not_false_eq_true], ⟨by dsimp only; omega, l6, ho6, hC6⟩, by dsimp only; omega⟩
  have hd2 : decide ((i : Int) < (cs.length : Int)) = false := decide_eq_false (by omega)
  rw [List.take_of_length_le (by omega), hds] at ho
  repeat' (first | (simp (disch := omega) only [push_cast, ↓reduceIte, zA, zG, zB, zH, zI, zC, zJ, zK, zL, zD, zE, zF, zM, zN, zO, zP, zQ, reduceCtorEq, not_true_eq_false, not_false_eq_true, hd2, addr_add_eq, Nat.zero_add]) | (first | refine iE ?_ ?_ | refine iD ?_ ?_ | refine iQ ?_ ?_ | refine iV ?_ ?_) <;> intro _ | refine And.intro (by omega) ?_ | refine drawn_q ?_ | fail)
  have hbs : kf ≤ w1.heap.size := by rw [← hkf]; exact l1.size
  first | exact ⟨(own_base ho hbs), (l1.trans l4)⟩ | exact (l1.trans l4)
theorem used1_c (x : ByteArray) (k : Nat) (v : Value) (l : List ByteArray) (w : World) (hk : w.cell? ⟨k, 0, none⟩ = some v) (h : StS w v l) : FnC Tryz.prog 51 #[.string x, pt k] w fun r w' => r = .bool (!inL x l) ∧ w' = w := by
  refine enter51 _ _ ?_
  unfold B51
  repeat' (first | (simp (disch := omega) only [push_cast, ↓reduceIte, zA, zG, zB, zH, zI, zC, zJ, zK, zL, zD, zE, zF, zM, zN, zO, zP, zQ, reduceCtorEq, not_true_eq_false, not_false_eq_true, hk]) | (first | refine iE ?_ ?_ | refine iD ?_ ?_ | refine iQ ?_ ?_ | refine iV ?_ ?_) <;> intro _ | refine And.intro (by omega) ?_ | refine drawn_q ?_ | fail)
  refine (scontains_c v l x w h).mono ?_
  rintro _ w0 ⟨rfl, h0⟩; obtain rfl := h0.symm
  repeat' (first | (simp (disch := omega) only [push_cast, ↓reduceIte, zA, zG, zB, zH, zI, zC, zJ, zK, zL, zD, zE, zF, zM, zN, zO, zP, zQ, reduceCtorEq, not_true_eq_false, not_false_eq_true]) | (first | refine iE ?_ ?_ | refine iD ?_ ?_ | refine iQ ?_ ?_ | refine iV ?_ ?_) <;> intro _ | refine And.intro (by omega) ?_ | refine drawn_q ?_ | fail)
theorem tused_c (dv mv : Value) (d m : List ByteArray) (q : QD) (w : World) (h : ScIs w dv mv d m) (hq : q.Ok w) (hcn : q.wh.cnt ≤ 1000000) (hbl : q.bl.length ≤ 1000) (hdl : d.length ≤ 1000) : FnC Tryz.prog 19 #[scV dv mv, .agg (qdC q).toArray] w fun v w' => StS w' v (usedL d q) ∧ Later w w' := by
  have esc : scV dv mv = .agg #[dv, mv] := rfl
  rw [esc]
  refine enter19 _ _ ?_
  unfold B19
  have eca : (Value.agg (qdC q).toArray).cells = (qdC q).toArray := rfl
  have ecb : (Value.agg #[dv, mv]).cells = #[dv, mv] := rfl
  obtain ⟨l1, s1, F⟩ := box2 w dv mv 24
  have B2 := Blk.new (w.alloc (.cells #[dv, mv] 24)) (qdC q).toArray 32
  have l2 := later_alloc (w.alloc (.cells #[dv, mv] 24)) (.cells (qdC q).toArray 32)
  rw [s1] at B2
  repeat' (first | (simp (disch := omega) only [push_cast, ↓reduceIte, zA, zG, zB, zH, zI, zC, zJ, zK, zL, zD, zE, zF, zM, zN, zO, zP, zQ, reduceCtorEq, not_true_eq_false, not_false_eq_true, eca, ecb, s1]) | (first | refine iE ?_ ?_ | refine iD ?_ ?_ | refine iQ ?_ ?_ | refine iV ?_ ?_) <;> intro _ | refine And.intro (by omega) ?_ | fail)
  have l12 := l1.trans l2
  have FF : ∀ w', Later ((w.alloc (.cells #[dv, mv] 24)).alloc (.cells (qdC q).toArray 32)) w' → w'.cell? ⟨w.heap.size, 0, none⟩ = some dv := fun w' hl => (F w' (l2.trans hl)).1
  clear F
  generalize (w.alloc (.cells #[dv, mv] 24)).alloc (.cells (qdC q).toArray 32) = w1 at *
  generalize hkf : w.heap.size = kf at *
  have h1 := h.later l12
  have q1 := hq.later l12
  have c1 : cellsAt w1 ⟨kf + 1, 0, none⟩ 12 = some (qdC q) := Blk.cellsAt (l := qdC q) B2
  repeat' (first | (simp (disch := omega) only [push_cast, ↓reduceIte, zA, zG, zB, zH, zI, zC, zJ, zK, zL, zD, zE, zF, zM, zN, zO, zP, zQ, reduceCtorEq, not_true_eq_false, not_false_eq_true, c1]) | (first | refine iE ?_ ?_ | refine iD ?_ ?_ | refine iQ ?_ ?_ | refine iV ?_ ?_) <;> intro _ | refine And.intro (by omega) ?_ | fail)
  refine (tdims_c q w1 q1 hcn hbl).mono ?_
  rintro av w2 ⟨ho2, l2⟩
  have hav := OwnS.st ho2
  obtain ⟨ao, ac, hae⟩ := Sl.slice hav
  rw [hae] at hav
  subst hae
  have l3 := later_alloc w2 (.cells #[.slice ao ((q.bl ++ q.wh.dims).map Value.string).length ac] 22)
  repeat' (first | (simp (disch := omega) only [push_cast, ↓reduceIte, zA, zG, zB, zH, zI, zC, zJ, zK, zL, zD, zE, zF, zM, zN, zO, zP, zQ, reduceCtorEq, not_true_eq_false, not_false_eq_true]) | (first | refine iE ?_ ?_ | refine iD ?_ ?_ | refine iQ ?_ ?_ | refine iV ?_ ?_) <;> intro _ | refine And.intro (by omega) ?_ | fail)
  have B3 := Blk.new w2 #[.slice ao ((q.bl ++ q.wh.dims).map Value.string).length ac] 22
  generalize w2.alloc (.cells #[.slice ao ((q.bl ++ q.wh.dims).map Value.string).length ac] 22) = w3 at *
  have l13 := l2.trans l3
  have f3 := FF w3 l13
  repeat' (first | (simp (disch := omega) only [push_cast, ↓reduceIte, zA, zG, zB, zH, zI, zC, zJ, zK, zL, zD, zE, zF, zM, zN, zO, zP, zQ, reduceCtorEq, not_true_eq_false, not_false_eq_true, f3, addr_add_eq, Nat.zero_add]) | (first | refine iE ?_ ?_ | refine iD ?_ ?_ | refine iQ ?_ ?_ | refine iV ?_ ?_) <;> intro _ | refine And.intro (by omega) ?_ | fail)
  have h3 := (h1.later l13).dS
  refine (sclone_c dv d w3 h3 (by omega)).mono ?_
  rintro cv w4 ⟨ho4, l4⟩
  repeat' (first | (simp (disch := omega) only [push_cast, ↓reduceIte, zA, zG, zB, zH, zI, zC, zJ, zK, zL, zD, zE, zF, zM, zN, zO, zP, zQ, reduceCtorEq, not_true_eq_false, not_false_eq_true]) | (first | refine iE ?_ ?_ | refine iD ?_ ?_ | refine iQ ?_ ?_ | refine iV ?_ ?_) <;> intro _ | refine And.intro (by omega) ?_ | fail)
  have hpr : ∀ x ∈ d, Prd Tryz.prog w3 51 #[pt w2.heap.size] (.string x) (!inL x (q.bl ++ q.wh.dims)) := by
    intro x _ w' hl
    have b := hl.cell (B3.cell 0)
    refine (used1_c x w2.heap.size _ (q.bl ++ q.wh.dims) w' b ((hav.later l3).later hl)).mono ?_
    rintro r w'' ⟨rfl, rfl⟩
    exact ⟨rfl, Later.refl _⟩
  refine (sdelete_c w3.heap.size cv d 51 #[pt w2.heap.size] (fun x => !inL x (q.bl ++ q.wh.dims)) w3 w4 l4 (Nat.le_refl _) ho4 hpr (by omega)).mono ?_
  rintro r w5 ⟨hr, l5⟩
  have hr : StS w5 r (usedL d q) := by
    unfold usedL
    simpa using hr
  repeat' (first | (simp (disch := omega) only [push_cast, ↓reduceIte, zA, zG, zB, zH, zI, zC, zJ, zK, zL, zD, zE, zF, zM, zN, zO, zP, zQ, reduceCtorEq, not_true_eq_false, not_false_eq_true]) | (first | refine iE ?_ ?_ | refine iD ?_ ?_ | refine iQ ?_ ?_ | refine iV ?_ ?_) <;> intro _ | refine And.intro (by omega) ?_ | refine drawn_q ?_ | fail)
  first | exact ⟨hr, (l12.trans (l13.trans l5))⟩ | exact (l12.trans (l13.trans l5))
end Go.Proofs.YtnofalhkapmcnaaGreat
end
section
set_option linter.unusedSimpArgs false
namespace Go.Proofs.YtnofalhkapmcnaaGreat
open Go.Vc Go.Key
set_option maxRecDepth 100000
theorem findexF_c (v : Value) (l : List FT) (g : FuncId) (lb : Array Value) (p : FT → Bool) (w : World) (h : RecS ftC 4 w v l) (hp : ∀ x ∈ l, Prd Tryz.prog w g lb (.agg (ftC x).toArray) (p x)) : FnC Tryz.prog 110 #[v, .func (.func g) #[] lb] w fun r w' => r = .int .i64 (idxI p l) ∧ Later w w' := by
  obtain ⟨o, c, rfl, g1, g2⟩ := h.slice
  refine enter110 _ _ ?_
  unfold B110
  repeat' (first | (simp (disch := omega) only [push_cast, ↓reduceIte, zA, zG, zB, zH, zI, zC, zJ, zK, zL, zD, zE, zF, zM, zN, zO, zP, zQ, reduceCtorEq, not_true_eq_false, not_false_eq_true]) | (first | refine iE ?_ ?_ | refine iD ?_ ?_ | refine iQ ?_ ?_ | refine iV ?_ ?_) <;> intro _ | refine And.intro (by omega) ?_ | refine drawn_q ?_ | fail)
  refine vc_loop W110_0 (fun i : Nat => [(8, .int .i64 (i : Int))]) (fun i w' => i ≤ l.length ∧ Later w w' ∧ (l.take i).any p = false) (fun i => l.length - i) 0 (by decide) ?_ ?_ ?_
  · simp (disch := omega) only [push_cast, ↓reduceIte, zA, zG, zB, zH, zI, zC, zJ, zK, zL, zD, zE, zF, zM, zN, zO, zP, zQ, reduceCtorEq, not_true_eq_false, not_false_eq_true]
    try rfl
  · exact ⟨Nat.zero_le _, Later.refl _, by simp⟩
  rintro i uu w1 ⟨hi, l1, hno⟩
  by_cases hil : i < l.length
  · have hd : decide ((i : Int) < (l.length : Int)) = true := decide_eq_true (by omega)
    obtain ⟨a, rfl, c0⟩ := RecS.at ftC_len (h.later l1) hil
    repeat' (first | (simp (disch := omega) only [push_cast, ↓reduceIte, zA, zG, zB, zH, zI, zC, zJ, zK, zL, zD, zE, zF, zM, zN, zO, zP, zQ, reduceCtorEq, not_true_eq_false, not_false_eq_true, hd, c0]) | (first | refine iE ?_ ?_ | refine iD ?_ ?_ | refine iQ ?_ ?_ | refine iV ?_ ?_) <;> intro _ | refine And.intro (by omega) ?_ | refine drawn_q ?_ | fail)
    refine (hp l[i] (List.getElem_mem hil) w1 l1).mono ?_
    rintro _ w2 ⟨rfl, l2⟩
    cases hx : p l[i] with
    | true =>
      rw [idxI_hit hil hx hno]
      repeat' (first | (simp (disch := omega) only [push_cast, ↓reduceIte, zA, zG, zB, zH, zI, zC, zJ, zK, zL, zD, zE, zF, zM, zN, zO, zP, zQ, reduceCtorEq, not_true_eq_false, not_false_eq_true]) | (first | refine iE ?_ ?_ | refine iD ?_ ?_ | refine iQ ?_ ?_ | refine iV ?_ ?_) <;> intro _ | refine And.intro (by omega) ?_ | refine drawn_q ?_ | fail)
      first | exact ⟨rfl, (l1.trans l2)⟩ | exact (l1.trans l2)
    | false =>
      repeat' (first | (simp (disch := omega) only [push_cast, ↓reduceIte, zA, zG, zB, zH, zI, zC, zJ, zK, zL, zD, zE, zF, zM, zN, zO, zP, zQ, reduceCtorEq, not_true_eq_false, not_false_eq_true]) | (first | refine iE ?_ ?_ | refine iD ?_ ?_ | refine iQ ?_ ?_ | refine iV ?_ ?_) <;> intro _ | refine And.intro (by omega) ?_ | refine drawn_q ?_ | fail)
      exact ⟨rfl, i + 1, by simp (disch := omega) only [push_cast, ↓reduceIte, zA, zG, zB, zH, zI, zC, zJ, zK, zL, zD, zE, zF, zM, zN, zO, zP, zQ, reduceCtorEq, not_true_eq_false, not_false_eq_true], ⟨by omega, l1.trans l2, any_step hil hx hno⟩, by dsimp only; omega⟩
  · have hd : decide ((i : Int) < (l.length : Int)) = false := decide_eq_false (by omega)
    rw [List.take_of_length_le (by omega)] at hno
    rw [idxI_miss hno]
    repeat' (first | (simp (disch := omega) only [push_cast, ↓reduceIte, zA, zG, zB, zH, zI, zC, zJ, zK, zL, zD, zE, zF, zM, zN, zO, zP, zQ, reduceCtorEq, not_true_eq_false, not_false_eq_true, hd]) | (first | refine iE ?_ ?_ | refine iD ?_ ?_ | refine iQ ?_ ?_ | refine iV ?_ ?_) <;> intro _ | refine And.intro (by omega) ?_ | refine drawn_q ?_ | fail)
    first | exact ⟨rfl, l1⟩ | exact l1
theorem fcontainsF_c (v : Value) (l : List FT) (g : FuncId) (lb : Array Value) (p : FT → Bool) (w : World) (h : RecS ftC 4 w v l) (hp : ∀ x ∈ l, Prd Tryz.prog w g lb (.agg (ftC x).toArray) (p x)) : FnC Tryz.prog 66 #[v, .func (.func g) #[] lb] w fun r w' => r = .bool (l.any p) ∧ Later w w' := by
  obtain ⟨o, c, rfl, g1, g2⟩ := h.slice
  refine enter66 _ _ ?_
  unfold B66
  repeat' (first | (simp (disch := omega) only [push_cast, ↓reduceIte, zA, zG, zB, zH, zI, zC, zJ, zK, zL, zD, zE, zF, zM, zN, zO, zP, zQ, reduceCtorEq, not_true_eq_false, not_false_eq_true]) | (first | refine iE ?_ ?_ | refine iD ?_ ?_ | refine iQ ?_ ?_ | refine iV ?_ ?_) <;> intro _ | refine And.intro (by omega) ?_ | refine drawn_q ?_ | fail)
  refine (findexF_c _ l g lb p w h hp).mono ?_
  rintro _ w1 ⟨rfl, l1⟩
  have e := idxI_ge p l
  repeat' (first | (simp (disch := omega) only [push_cast, ↓reduceIte, zA, zG, zB, zH, zI, zC, zJ, zK, zL, zD, zE, zF, zM, zN, zO, zP, zQ, reduceCtorEq, not_true_eq_false, not_false_eq_true, e]) | (first | refine iE ?_ ?_ | refine iD ?_ ?_ | refine iQ ?_ ?_ | refine iV ?_ ?_) <;> intro _ | refine And.intro (by omega) ?_ | refine drawn_q ?_ | fail)
  first | exact ⟨rfl, l1⟩ | exact l1
theorem tindexF_c (v : Value) (l : List TD) (g : FuncId) (lb : Array Value) (p : TD → Bool) (w : World) (h : RecS tdC 2 w v l) (hp : ∀ x ∈ l, Prd Tryz.prog w g lb (.agg (tdC x).toArray) (p x)) : FnC Tryz.prog 119 #[v, .func (.func g) #[] lb] w fun r w' => r = .int .i64 (idxI p l) ∧ Later w w' := by
  obtain ⟨o, c, rfl, g1, g2⟩ := h.slice
  refine enter119 _ _ ?_
  unfold B119
  repeat' (first | (simp (disch := omega) only [push_cast, ↓reduceIte, zA, zG, zB, zH, zI, zC, zJ, zK, zL, zD, zE, zF, zM, zN, zO, zP, zQ, reduceCtorEq, not_true_eq_false, not_false_eq_true]) | (first | refine iE ?_ ?_ | refine iD ?_ ?_ | refine iQ ?_ ?_ | refine iV ?_ ?_) <;> intro _ | refine And.intro (by omega) ?_ | refine drawn_q ?_ | fail)
  refine vc_loop W119_0 (fun i : Nat => [(8, .int .i64 (i : Int))]) (fun i w' => i ≤ l.length ∧ Later w w' ∧ (l.take i).any p = false) (fun i => l.length - i) 0 (by decide) ?_ ?_ ?_
  · simp (disch := omega) only [push_cast, ↓reduceIte, zA, zG, zB, zH, zI, zC, zJ, zK, zL, zD, zE, zF, zM, zN, zO, zP, zQ, reduceCtorEq, not_true_eq_false, not_false_eq_true]
    try rfl
  · exact ⟨Nat.zero_le _, Later.refl _, by simp⟩
  rintro i uu w1 ⟨hi, l1, hno⟩
  by_cases hil : i < l.length
  · have hd : decide ((i : Int) < (l.length : Int)) = true := decide_eq_true (by omega)
    obtain ⟨a, rfl, c0⟩ := RecS.at tdC_len (h.later l1) hil
    repeat' (first | (simp (disch := omega) only [push_cast, ↓reduceIte, zA, zG, zB, zH, zI, zC, zJ, zK, zL, zD, zE, zF, zM, zN, zO, zP, zQ, reduceCtorEq, not_true_eq_false, not_false_eq_true, hd, c0]) | (first | refine iE ?_ ?_ | refine iD ?_ ?_ | refine iQ ?_ ?_ | refine iV ?_ ?_) <;> intro _ | refine And.intro (by omega) ?_ | refine drawn_q ?_ | fail)
    refine (hp l[i] (List.getElem_mem hil) w1 l1).mono ?_
    rintro _ w2 ⟨rfl, l2⟩
    cases hx : p l[i] with
    | true =>
      rw [idxI_hit hil hx hno]
      repeat' (first | (simp (disch := omega) only [push_cast, ↓reduceIte, zA, zG, zB, zH, zI, zC, zJ, zK, zL, zD, zE, zF, zM, zN, zO, zP, zQ, reduceCtorEq, not_true_eq_false, not_false_eq_true]) | (first | refine iE ?_ ?_ | refine iD ?_ ?_ | refine iQ ?_ ?_ | refine iV ?_ ?_) <;> intro _ | refine And.intro (by omega) ?_ | refine drawn_q ?_ | fail)
      first | exact ⟨rfl, (l1.trans l2)⟩ | exact (l1.trans l2)
    | false =>
      repeat' (first | (simp (disch := omega) only [push_cast, ↓reduceIte, zA, zG, zB, zH, zI, zC, zJ, zK, zL, zD, zE, zF, zM, zN, zO, zP, zQ, reduceCtorEq, not_true_eq_false, not_false_eq_true]) | (first | refine iE ?_ ?_ | refine iD ?_ ?_ | refine iQ ?_ ?_ | refine iV ?_ ?_) <;> intro _ | refine And.intro (by omega) ?_ | refine drawn_q ?_ | fail)
      exact ⟨rfl, i + 1, by simp (disch := omega) only [push_cast, ↓reduceIte, zA, zG, zB, zH, zI, zC, zJ, zK, zL, zD, zE, zF, zM, zN, zO, zP, zQ, reduceCtorEq, not_true_eq_false, not_false_eq_true], ⟨by omega, l1.trans l2, any_step hil hx hno⟩, by dsimp only; omega⟩
  · have hd : decide ((i : Int) < (l.length : Int)) = false := decide_eq_false (by omega)
    rw [List.take_of_length_le (by omega)] at hno
    rw [idxI_miss hno]
    repeat' (first | (simp (disch := omega) only [push_cast, ↓reduceIte, zA, zG, zB, zH, zI, zC, zJ, zK, zL, zD, zE, zF, zM, zN, zO, zP, zQ, reduceCtorEq, not_true_eq_false, not_false_eq_true, hd]) | (first | refine iE ?_ ?_ | refine iD ?_ ?_ | refine iQ ?_ ?_ | refine iV ?_ ?_) <;> intro _ | refine And.intro (by omega) ?_ | refine drawn_q ?_ | fail)
    first | exact ⟨rfl, l1⟩ | exact l1
theorem tcontainsF_c (v : Value) (l : List TD) (g : FuncId) (lb : Array Value) (p : TD → Bool) (w : World) (h : RecS tdC 2 w v l) (hp : ∀ x ∈ l, Prd Tryz.prog w g lb (.agg (tdC x).toArray) (p x)) : FnC Tryz.prog 77 #[v, .func (.func g) #[] lb] w fun r w' => r = .bool (l.any p) ∧ Later w w' := by
  obtain ⟨o, c, rfl, g1, g2⟩ := h.slice
  refine enter77 _ _ ?_
  unfold B77
  repeat' (first | (simp (disch := omega) only [push_cast, ↓reduceIte, zA, zG, zB, zH, zI, zC, zJ, zK, zL, zD, zE, zF, zM, zN, zO, zP, zQ, reduceCtorEq, not_true_eq_false, not_false_eq_true]) | (first | refine iE ?_ ?_ | refine iD ?_ ?_ | refine iQ ?_ ?_ | refine iV ?_ ?_) <;> intro _ | refine And.intro (by omega) ?_ | refine drawn_q ?_ | fail)
  refine (tindexF_c _ l g lb p w h hp).mono ?_
  rintro _ w1 ⟨rfl, l1⟩
  have e := idxI_ge p l
  repeat' (first | (simp (disch := omega) only [push_cast, ↓reduceIte, zA, zG, zB, zH, zI, zC, zJ, zK, zL, zD, zE, zF, zM, zN, zO, zP, zQ, reduceCtorEq, not_true_eq_false, not_false_eq_true, e]) | (first | refine iE ?_ ?_ | refine iD ?_ ?_ | refine iQ ?_ ?_ | refine iV ?_ ?_) <;> intro _ | refine And.intro (by omega) ?_ | refine drawn_q ?_ | fail)
  first | exact ⟨rfl, l1⟩ | exact l1
theorem hindexF_c (v : Value) (l : List HD) (g : FuncId) (lb : Array Value) (p : HD → Bool) (w : World) (h : RecS hdC 4 w v l) (hp : ∀ x ∈ l, Prd Tryz.prog w g lb (.agg (hdC x).toArray) (p x)) : FnC Tryz.prog 120 #[v, .func (.func g) #[] lb] w fun r w' => r = .int .i64 (idxI p l) ∧ Later w w' := by
  obtain ⟨o, c, rfl, g1, g2⟩ := h.slice
  refine enter120 _ _ ?_
  unfold B120
  repeat' (first | (simp (disch := omega) only [push_cast, ↓reduceIte, zA, zG, zB, zH, zI, zC, zJ, zK, zL, zD, zE, zF, zM, zN, zO, zP, zQ, reduceCtorEq, not_true_eq_false, not_false_eq_true]) | (first | refine iE ?_ ?_ | refine iD ?_ ?_ | refine iQ ?_ ?_ | refine iV ?_ ?_) <;> intro _ | refine And.intro (by omega) ?_ | refine drawn_q ?_ | fail)
  refine vc_loop W120_0 (fun i : Nat => [(8, .int .i64 (i : Int))]) (fun i w' => i ≤ l.length ∧ Later w w' ∧ (l.take i).any p = false) (fun i => l.length - i) 0 (by decide) ?_ ?_ ?_
  · simp (disch := omega) only [push_cast, ↓reduceIte, zA, zG, zB, zH, zI, zC, zJ, zK, zL, zD, zE, zF, zM, zN, zO, zP, zQ, reduceCtorEq, not_true_eq_false, not_false_eq_true]
    try rfl
  · exact ⟨Nat.zero_le _, Later.refl _, by simp⟩
  rintro i uu w1 ⟨hi, l1, hno⟩
  by_cases hil : i < l.length
  · have hd : decide ((i : Int) < (l.length : Int)) = true := decide_eq_true (by omega)
    obtain ⟨a, rfl, c0⟩ := RecS.at hdC_len (h.later l1) hil
    repeat' (first | (simp (disch := omega) only [push_cast, ↓reduceIte, zA, zG, zB, zH, zI, zC, zJ, zK, zL, zD, zE, zF, zM, zN, zO, zP, zQ, reduceCtorEq, not_true_eq_false, not_false_eq_true, hd, c0]) | (first | refine iE ?_ ?_ | refine iD ?_ ?_ | refine iQ ?_ ?_ | refine iV ?_ ?_) <;> intro _ | refine And.intro (by omega) ?_ | refine drawn_q ?_ | fail)
    refine (hp l[i] (List.getElem_mem hil) w1 l1).mono ?_
    rintro _ w2 ⟨rfl, l2⟩
    cases hx : p l[i] with
    | true =>
      rw [idxI_hit hil hx hno]
      repeat' (first | (simp (disch := omega) only [push_cast, ↓reduceIte, zA, zG, zB, zH, zI, zC, zJ, zK, zL, zD, zE, zF, zM, zN, zO, zP, zQ, reduceCtorEq, not_true_eq_false, not_false_eq_true]) | (first | refine iE ?_ ?_ | refine iD ?_ ?_ | refine iQ ?_ ?_ | refine iV ?_ ?_) <;> intro _ | refine And.intro (by omega) ?_ | refine drawn_q ?_ | fail)
      first | exact ⟨rfl, (l1.trans l2)⟩ | exact (l1.trans l2)
    | false =>
      repeat' (first | (simp (disch := omega) only [push_cast, ↓reduceIte, zA, zG, zB, zH, zI, zC, zJ, zK, zL, zD, zE, zF, zM, zN, zO, zP, zQ, reduceCtorEq, not_true_eq_false, not_false_eq_true]) | (first | refine iE ?_ ?_ | refine iD ?_ ?_ | refine iQ ?_ ?_ | refine iV ?_ ?_) <;> intro _ | refine And.intro (by omega) ?_ | refine drawn_q ?_ | fail)
      exact ⟨rfl, i + 1, by simp (disch := omega) only [push_cast, ↓reduceIte, zA, zG, zB, zH, zI, zC, zJ, zK, zL, zD, zE, zF, zM, zN, zO, zP, zQ, reduceCtorEq, not_true_eq_false, not_false_eq_true], ⟨by omega, l1.trans l2, any_step hil hx hno⟩, by dsimp only; omega⟩
  · have hd : decide ((i : Int) < (l.length : Int)) = false := decide_eq_false (by omega)
    rw [List.take_of_length_le (by omega)] at hno
    rw [idxI_miss hno]
    repeat' (first | (simp (disch := omega) only [push_cast, ↓reduceIte, zA, zG, zB, zH, zI, zC, zJ, zK, zL, zD, zE, zF, zM, zN, zO, zP, zQ, reduceCtorEq, not_true_eq_false, not_false_eq_true, hd]) | (first | refine iE ?_ ?_ | refine iD ?_ ?_ | refine iQ ?_ ?_ | refine iV ?_ ?_) <;> intro _ | refine And.intro (by omega) ?_ | refine drawn_q ?_ | fail)
    first | exact ⟨rfl, l1⟩ | exact l1
theorem hcontainsF_c (v : Value) (l : List HD) (g : FuncId) (lb : Array Value) (p : HD → Bool) (w : World) (h : RecS hdC 4 w v l) (hp : ∀ x ∈ l, Prd Tryz.prog w g lb (.agg (hdC x).toArray) (p x)) : FnC Tryz.prog 80 #[v, .func (.func g) #[] lb] w fun r w' => r = .bool (l.any p) ∧ Later w w' := by
  obtain ⟨o, c, rfl, g1, g2⟩ := h.slice
  refine enter80 _ _ ?_
  unfold B80
  repeat' (first | (simp (disch := omega) only [push_cast, ↓reduceIte, zA, zG, zB, zH, zI, zC, zJ, zK, zL, zD, zE, zF, zM, zN, zO, zP, zQ, reduceCtorEq, not_true_eq_false, not_false_eq_true]) | (first | refine iE ?_ ?_ | refine iD ?_ ?_ | refine iQ ?_ ?_ | refine iV ?_ ?_) <;> intro _ | refine And.intro (by omega) ?_ | refine drawn_q ?_ | fail)
  refine (hindexF_c _ l g lb p w h hp).mono ?_
  rintro _ w1 ⟨rfl, l1⟩
  have e := idxI_ge p l
  repeat' (first | (simp (disch := omega) only [push_cast, ↓reduceIte, zA, zG, zB, zH, zI, zC, zJ, zK, zL, zD, zE, zF, zM, zN, zO, zP, zQ, reduceCtorEq, not_true_eq_false, not_false_eq_true, e]) | (first | refine iE ?_ ?_ | refine iD ?_ ?_ | refine iQ ?_ ?_ | refine iV ?_ ?_) <;> intro _ | refine And.intro (by omega) ?_ | refine drawn_q ?_ | fail)
  first | exact ⟨rfl, l1⟩ | exact l1
end Go.Proofs.YtnofalhkapmcnaaGreat
end
section
set_option linter.unusedSimpArgs false
namespace Go.Proofs.YtnofalhkapmcnaaGreat
open Go.Vc Go.Key
set_option maxRecDepth 100000
theorem termed_c (t : TD) (w : World) : FnC Tryz.prog 79 #[.agg (tdC t).toArray] w fun v w' => v = .bool (tmOk t) ∧ Later w w' := by
  refine enter79 _ ?_
  unfold B79
  have eca : (Value.agg (tdC t).toArray).cells = (tdC t).toArray := rfl
  have l1 := later_alloc w (.cells (tdC t).toArray 58)
  have B1 := Blk.new w (tdC t).toArray 58
  repeat' (first | (simp (disch := omega) only [push_cast, ↓reduceIte, zA, zG, zB, zH, zI, zC, zJ, zK, zL, zD, zE, zF, zM, zN, zO, zP, zQ, reduceCtorEq, not_true_eq_false, not_false_eq_true, eca]) | (first | refine iE ?_ ?_ | refine iD ?_ ?_ | refine iQ ?_ ?_ | refine iV ?_ ?_) <;> intro _ | refine And.intro (by omega) ?_ | refine drawn_q ?_ | fail)
  generalize w.alloc (.cells (tdC t).toArray 58) = w1 at *
  generalize w.heap.size = kf at *
  have a0 : w1.cell? ⟨kf, 0, none⟩ = some (.int .i64 t.f) := B1.cell 0
  have a1 : w1.cell? ⟨kf, 1, none⟩ = some (.string t.m) := B1.cell 1
  unfold tmOk
  repeat' (first | (simp (disch := omega) only [push_cast, ↓reduceIte, zA, zG, zB, zH, zI, zC, zJ, zK, zL, zD, zE, zF, zM, zN, zO, zP, zQ, reduceCtorEq, not_true_eq_false, not_false_eq_true, a0, a1, addr_add_eq, Nat.zero_add]) | (first | refine iE ?_ ?_ | refine iD ?_ ?_ | refine iQ ?_ ?_ | refine iV ?_ ?_) <;> intro _ | refine And.intro (by omega) ?_ | refine drawn_q ?_ | fail)
  all_goals (refine ⟨congrArg Value.bool ?_, l1⟩)
  all_goals (clear a0 a1 B1 l1 eca)
  all_goals simp_all
  all_goals (intros; omega)
theorem shaped1_c (t : TD) (w : World) : FnC Tryz.prog 78 #[.agg (tdC t).toArray] w fun v w' => v = .bool (!tmOk t) ∧ Later w w' := by
  refine enter78 _ ?_
  unfold B78
  have eca : (Value.agg (tdC t).toArray).cells = (tdC t).toArray := rfl
  have l1 := later_alloc w (.cells (tdC t).toArray 58)
  have B1 := Blk.new w (tdC t).toArray 58
  repeat' (first | (simp (disch := omega) only [push_cast, ↓reduceIte, zA, zG, zB, zH, zI, zC, zJ, zK, zL, zD, zE, zF, zM, zN, zO, zP, zQ, reduceCtorEq, not_true_eq_false, not_false_eq_true, eca]) | (first | refine iE ?_ ?_ | refine iD ?_ ?_ | refine iQ ?_ ?_ | refine iV ?_ ?_) <;> intro _ | refine And.intro (by omega) ?_ | refine drawn_q ?_ | fail)
  generalize w.alloc (.cells (tdC t).toArray 58) = w1 at *
  generalize w.heap.size = kf at *
  have a0 := Blk.cellsAt (l := tdC t) B1
  have a0 : cellsAt w1 ⟨kf, 0, none⟩ 2 = some (tdC t) := a0
  repeat' (first | (simp (disch := omega) only [push_cast, ↓reduceIte, zA, zG, zB, zH, zI, zC, zJ, zK, zL, zD, zE, zF, zM, zN, zO, zP, zQ, reduceCtorEq, not_true_eq_false, not_false_eq_true, a0]) | (first | refine iE ?_ ?_ | refine iD ?_ ?_ | refine iQ ?_ ?_ | refine iV ?_ ?_) <;> intro _ | refine And.intro (by omega) ?_ | refine drawn_q ?_ | fail)
  refine (termed_c t w1).mono ?_
  rintro _ w2 ⟨rfl, l2⟩
  repeat' (first | (simp (disch := omega) only [push_cast, ↓reduceIte, zA, zG, zB, zH, zI, zC, zJ, zK, zL, zD, zE, zF, zM, zN, zO, zP, zQ, reduceCtorEq, not_true_eq_false, not_false_eq_true]) | (first | refine iE ?_ ?_ | refine iD ?_ ?_ | refine iQ ?_ ?_ | refine iV ?_ ?_) <;> intro _ | refine And.intro (by omega) ?_ | refine drawn_q ?_ | fail)
  first | exact ⟨rfl, (l1.trans l2)⟩ | exact (l1.trans l2)
theorem shaped2_c (h : HD) (w : World) : FnC Tryz.prog 81 #[.agg (hdC h).toArray] w fun v w' => v = .bool (!hvOk h) ∧ Later w w' := by
  refine enter81 _ ?_
  unfold B81
  have eca : (Value.agg (hdC h).toArray).cells = (hdC h).toArray := rfl
  have l1 := later_alloc w (.cells (hdC h).toArray 103)
  have B1 := Blk.new w (hdC h).toArray 103
  repeat' (first | (simp (disch := omega) only [push_cast, ↓reduceIte, zA, zG, zB, zH, zI, zC, zJ, zK, zL, zD, zE, zF, zM, zN, zO, zP, zQ, reduceCtorEq, not_true_eq_false, not_false_eq_true, eca]) | (first | refine iE ?_ ?_ | refine iD ?_ ?_ | refine iQ ?_ ?_ | refine iV ?_ ?_) <;> intro _ | refine And.intro (by omega) ?_ | refine drawn_q ?_ | fail)
  generalize w.alloc (.cells (hdC h).toArray 103) = w1 at *
  generalize w.heap.size = kf at *
  have a0 : cellsAt w1 ⟨kf, 0, none⟩ 2 = some (tdC h.t) := by
    refine cellsAt_of 2 _ _ rfl fun i x hx => ?_
    rw [addr_add_eq]
    match i, hx with
    | 0, hx => cases hx; exact B1.cell 0
    | 1, hx => cases hx; exact B1.cell 1
    | n + 2, hx => exact absurd hx (by simp [tdC])
  repeat' (first | (simp (disch := omega) only [push_cast, ↓reduceIte, zA, zG, zB, zH, zI, zC, zJ, zK, zL, zD, zE, zF, zM, zN, zO, zP, zQ, reduceCtorEq, not_true_eq_false, not_false_eq_true, a0, addr_add_eq, Nat.zero_add]) | (first | refine iE ?_ ?_ | refine iD ?_ ?_ | refine iQ ?_ ?_ | refine iV ?_ ?_) <;> intro _ | refine And.intro (by omega) ?_ | refine drawn_q ?_ | fail)
  refine (termed_c h.t w1).mono ?_
  rintro _ w2 ⟨rfl, l2⟩
  have B2 := B1.chg (Chg.of_later (ks := []) l2) (by simp)
  have a1 : w2.cell? ⟨kf, 2, none⟩ = some (.int .i64 h.sign) := B2.cell 2
  have a2 : w2.cell? ⟨kf, 3, none⟩ = some (.int .i64 h.value) := B2.cell 3
  have e : hvOk h = (tmOk h.t && decide (-1 ≤ h.sign) && decide (h.sign ≤ 1) && decide (-4611686018427387904 ≤ h.value) && decide (h.value ≤ 4611686018427387904)) := rfl
  rw [e]
  cases tmOk h.t with
  | false =>
    repeat' (first | (simp (disch := omega) only [push_cast, ↓reduceIte, zA, zG, zB, zH, zI, zC, zJ, zK, zL, zD, zE, zF, zM, zN, zO, zP, zQ, reduceCtorEq, not_true_eq_false, not_false_eq_true]) | (first | refine iE ?_ ?_ | refine iD ?_ ?_ | refine iQ ?_ ?_ | refine iV ?_ ?_) <;> intro _ | refine And.intro (by omega) ?_ | refine drawn_q ?_ | fail)
    first | exact ⟨rfl, (l1.trans l2)⟩ | exact (l1.trans l2)
  | true =>
    repeat' (first | (simp (disch := omega) only [push_cast, ↓reduceIte, zA, zG, zB, zH, zI, zC, zJ, zK, zL, zD, zE, zF, zM, zN, zO, zP, zQ, reduceCtorEq, not_true_eq_false, not_false_eq_true, a1, a2, addr_add_eq, Nat.zero_add]) | (first | refine iE ?_ ?_ | refine iD ?_ ?_ | refine iQ ?_ ?_ | refine iV ?_ ?_) <;> intro _ | refine And.intro (by omega) ?_ | refine drawn_q ?_ | fail)
    all_goals (refine ⟨congrArg Value.bool ?_, l1.trans l2⟩)
    all_goals (clear a1 a2 B1 B2 l1 l2 eca e a0)
    all_goals (rw [Bool.eq_iff_iff]; simp only [true_iff, Bool.not_eq_true', Bool.and_eq_false_iff, decide_eq_true_eq, decide_eq_false_iff_not]; omega)
theorem any_not {α : Type} (p : α → Bool) (l : List α) : l.any (fun x => !p x) = !l.all p := by
  induction l with
  | nil => rfl
  | cons a l ih => simp [ih]
set_option maxHeartbeats 800000 in
theorem formed_c : ∀ (f : FT) (deep : Nat) (w : World), deep ≤ 1000000 → f.Ok w → FnC Tryz.prog 82 #[.agg (ftC f).toArray, .int .i64 (deep : Int)] w fun v w' => v = .bool (f.form deep) ∧ Later w w' := by
  intro f
  induction f using FT.ind with
  | h f ih =>
  intro deep w hdp hf
  obtain ⟨h1, h2, h3, h4, h5⟩ := FT.ok_iff.1 hf
  obtain ⟨o, c, hkv, hc1, hc2⟩ := RecS.slice h4
  refine enter82 _ _ ?_
  unfold B82
  have eca : (Value.agg (ftC f).toArray).cells = (ftC f).toArray := rfl
  obtain ⟨l1, s1, B1⟩ := ftBox w f
  rw [FT.form_is]
  repeat' (first | (simp (disch := omega) only [push_cast, ↓reduceIte, zA, zG, zB, zH, zI, zC, zJ, zK, zL, zD, zE, zF, zM, zN, zO, zP, zQ, reduceCtorEq, not_true_eq_false, not_false_eq_true, eca]) | (first | refine iE ?_ ?_ | refine iD ?_ ?_ | refine iQ ?_ ?_ | refine iV ?_ ?_) <;> intro _ | refine And.intro (by omega) ?_ | refine drawn_q ?_ | fail)
  generalize w.alloc (.cells (ftC f).toArray 29) = w1 at *
  have l2 := later_alloc w1 (.cells #[.int .i64 (deep : Int)] 3)
  have B2 := Blk.new w1 #[.int .i64 (deep : Int)] 3
  have ecc : (Value.int .i64 (deep : Int)).cells = #[.int .i64 (deep : Int)] := rfl
  have hkd := Nat.ne_of_lt (Nat.lt_of_lt_of_eq (Nat.lt_succ_self w.heap.size) s1.symm)
  generalize hw2 : w1.alloc (.cells #[.int .i64 (deep : Int)] 3) = w2 at *
  have l02 := l1.trans l2
  obtain ⟨a0, a1, a2, a3⟩ := ftAt (ftLater B1 l2)
  have d0 : w2.cell? ⟨w1.heap.size, 0, none⟩ = some (.int .i64 (deep : Int)) := B2.cell 0
  generalize w1.heap.size = kd at *
  generalize w.heap.size = kf at *
  rw [hkv] at a3
  by_cases hz : deep = 0
  · have hd : decide ((deep : Int) = 0) = true := decide_eq_true (by omega)
    have hdb : (deep == 0) = true := by simp [hz]
    rw [hdb]
    repeat' (first | (simp (disch := omega) only [push_cast, ↓reduceIte, zA, zG, zB, zH, zI, zC, zJ, zK, zL, zD, zE, zF, zM, zN, zO, zP, zQ, reduceCtorEq, not_true_eq_false, not_false_eq_true, ecc, hw2, d0, hd, addr_add_eq, Nat.zero_add]) | (first | refine iE ?_ ?_ | refine iD ?_ ?_ | refine iQ ?_ ?_ | refine iV ?_ ?_) <;> intro _ | refine And.intro (by omega) ?_ | refine drawn_q ?_ | fail)
    first | exact ⟨rfl, l02⟩ | exact l02
  have hd : decide ((deep : Int) = 0) = false := decide_eq_false (by omega)
  have hdd : (deep : Int) - 1 = ((deep - 1 : Nat) : Int) := by omega
  have hdb : (deep == 0) = false := by simp [hz]
  have hp : ∀ k ∈ f.kids, Prd Tryz.prog w2 121 #[pt kd] (.agg (ftC k).toArray) (!k.form (deep - 1)) := by
    intro k hk w' hl
    have hcall := fun w3 (h3 : Later w' w3) => ih k hk (deep - 1) w3 (by omega) ((h5 k hk).later (l02.trans (hl.trans h3)))
    rw [← hdd] at hcall
    show FnC Tryz.prog 121 #[.agg (ftC k).toArray, pt kd] w' _
    have eck : (Value.agg (ftC k).toArray).cells = (ftC k).toArray := rfl
    obtain ⟨m1, s3, C1⟩ := ftBox w' k
    refine enter121 _ _ ?_
    unfold B121
    repeat' (first | (simp (disch := omega) only [push_cast, ↓reduceIte, zA, zG, zB, zH, zI, zC, zJ, zK, zL, zD, zE, zF, zM, zN, zO, zP, zQ, reduceCtorEq, not_true_eq_false, not_false_eq_true, eck]) | (first | refine iE ?_ ?_ | refine iD ?_ ?_ | refine iQ ?_ ?_ | refine iV ?_ ?_) <;> intro _ | refine And.intro (by omega) ?_ | refine drawn_q ?_ | fail)
    generalize w'.alloc (.cells (ftC k).toArray 29) = w3 at *
    generalize w'.heap.size = kk at *
    have b0 := Blk.cellsAt (l := ftC k) C1
    have b0 : cellsAt w3 ⟨kk, 0, none⟩ 4 = some (ftC k) := b0
    have b1 := (hl.trans m1).cell d0
    repeat' (first | (simp (disch := omega) only [push_cast, ↓reduceIte, zA, zG, zB, zH, zI, zC, zJ, zK, zL, zD, zE, zF, zM, zN, zO, zP, zQ, reduceCtorEq, not_true_eq_false, not_false_eq_true, b0, b1]) | (first | refine iE ?_ ?_ | refine iD ?_ ?_ | refine iQ ?_ ?_ | refine iV ?_ ?_) <;> intro _ | refine And.intro (by omega) ?_ | refine drawn_q ?_ | fail)
    refine (hcall w3 m1).mono ?_
    rintro _ w4 ⟨rfl, m4⟩
    repeat' (first | (simp (disch := omega) only [push_cast, ↓reduceIte, zA, zG, zB, zH, zI, zC, zJ, zK, zL, zD, zE, zF, zM, zN, zO, zP, zQ, reduceCtorEq, not_true_eq_false, not_false_eq_true]) | (first | refine iE ?_ ?_ | refine iD ?_ ?_ | refine iQ ?_ ?_ | refine iV ?_ ?_) <;> intro _ | refine And.intro (by omega) ?_ | refine drawn_q ?_ | fail)
    first | exact ⟨rfl, (m1.trans m4)⟩ | exact (m1.trans m4)
  repeat' (first | (simp (disch := omega) only [push_cast, ↓reduceIte, zA, zG, zB, zH, zI, zC, zJ, zK, zL, zD, zE, zF, zM, zN, zO, zP, zQ, reduceCtorEq, not_true_eq_false, not_false_eq_true, ecc, hw2, d0, a3, hd, addr_add_eq, Nat.zero_add]) | (first | refine iE ?_ ?_ | refine iD ?_ ?_ | refine iQ ?_ ?_ | refine iV ?_ ?_) <;> intro _ | refine And.intro (by omega) ?_ | refine drawn_q ?_ | fail)
  rw [hkv] at h4
  refine (fcontainsF_c _ _ _ #[pt kd] (fun k => !k.form (deep - 1)) w2 (h4.later l02) hp).mono ?_
  rintro _ w3 ⟨rfl, l3⟩
  obtain ⟨b0, b1, b2, b3⟩ := ftAt (ftLater B1 (l2.trans l3))
  rw [hkv] at b3
  rw [any_not, hdb]
  have l03 := l02.trans l3
  cases f.kids.all (fun k => k.form (deep - 1)) with
  | false =>
    repeat' (first | (simp (disch := omega) only [push_cast, ↓reduceIte, zA, zG, zB, zH, zI, zC, zJ, zK, zL, zD, zE, zF, zM, zN, zO, zP, zQ, reduceCtorEq, not_true_eq_false, not_false_eq_true]) | (first | refine iE ?_ ?_ | refine iD ?_ ?_ | refine iQ ?_ ?_ | refine iV ?_ ?_) <;> intro _ | refine And.intro (by omega) ?_ | refine drawn_q ?_ | fail)
    first | exact ⟨rfl, l03⟩ | exact l03
  | true =>
  rw [own_is]
  clear ih h5 hp d0 a0 a1 a2 a3
  have hl := l03
  clear l03 hd hdd ecc eca s1 hw2 B2 l1 l2 l3 l02 hkd hdb hz
  by_cases k1 : f.op = 1
  · have e1 : decide (f.op = 1) = true := decide_eq_true k1
    rw [if_pos k1]
    repeat' (first | (simp (disch := omega) only [push_cast, ↓reduceIte, zA, zG, zB, zH, zI, zC, zJ, zK, zL, zD, zE, zF, zM, zN, zO, zP, zQ, reduceCtorEq, not_true_eq_false, not_false_eq_true, b0, b1, b2, b3, e1, addr_add_eq, Nat.zero_add]) | (first | refine iE ?_ ?_ | refine iD ?_ ?_ | refine iQ ?_ ?_ | refine iV ?_ ?_) <;> intro _ | refine And.intro (by omega) ?_ | refine drawn_q ?_ | fail)
    all_goals (refine ⟨congrArg Value.bool ?_, hl⟩)
    all_goals (clear h1 h2 h3 h4 b0 b1 b2 b3 B1 hl)
    all_goals (try (have hnat : ∀ n : Nat, ((f.kids.length : Int) = (n : Int)) = (f.kids.length = n) := fun n => by rw [Int.ofNat_inj]))
    all_goals simp_all
    all_goals (first | omega | done)
  have e1 : decide (f.op = 1) = false := decide_eq_false k1
  by_cases k2 : f.op = 2
  · have e2 : decide (f.op = 2) = true := decide_eq_true k2
    rw [if_neg k1, if_pos k2]
    repeat' (first | (simp (disch := omega) only [push_cast, ↓reduceIte, zA, zG, zB, zH, zI, zC, zJ, zK, zL, zD, zE, zF, zM, zN, zO, zP, zQ, reduceCtorEq, not_true_eq_false, not_false_eq_true, b0, b1, b2, b3, e1, e2, addr_add_eq, Nat.zero_add]) | (first | refine iE ?_ ?_ | refine iD ?_ ?_ | refine iQ ?_ ?_ | refine iV ?_ ?_) <;> intro _ | refine And.intro (by omega) ?_ | refine drawn_q ?_ | fail)
    all_goals (refine ⟨congrArg Value.bool ?_, hl⟩)
    all_goals (clear h1 h2 h3 h4 b0 b1 b2 b3 B1 hl)
    all_goals (try (have hnat : ∀ n : Nat, ((f.kids.length : Int) = (n : Int)) = (f.kids.length = n) := fun n => by rw [Int.ofNat_inj]))
    all_goals simp_all
    all_goals (first | omega | done)
  have e2 : decide (f.op = 2) = false := decide_eq_false k2
  by_cases k3 : f.op = 3
  · have e3 : decide (f.op = 3) = true := decide_eq_true k3
    rw [if_neg k1, if_neg k2, if_pos k3]
    repeat' (first | (simp (disch := omega) only [push_cast, ↓reduceIte, zA, zG, zB, zH, zI, zC, zJ, zK, zL, zD, zE, zF, zM, zN, zO, zP, zQ, reduceCtorEq, not_true_eq_false, not_false_eq_true, b0, b1, b2, b3, e1, e2, e3, addr_add_eq, Nat.zero_add]) | (first | refine iE ?_ ?_ | refine iD ?_ ?_ | refine iQ ?_ ?_ | refine iV ?_ ?_) <;> intro _ | refine And.intro (by omega) ?_ | refine drawn_q ?_ | fail)
    all_goals (refine ⟨congrArg Value.bool ?_, hl⟩)
    all_goals (clear h1 h2 h3 h4 b0 b1 b2 b3 B1 hl)
    all_goals (try (have hnat : ∀ n : Nat, ((f.kids.length : Int) = (n : Int)) = (f.kids.length = n) := fun n => by rw [Int.ofNat_inj]))
    all_goals simp_all
    all_goals (first | omega | done)
  have e3 : decide (f.op = 3) = false := decide_eq_false k3
  by_cases k4 : f.op = 4
  · have e4 : decide (f.op = 4) = true := decide_eq_true k4
    rw [if_neg k1, if_neg k2, if_neg k3, if_pos (Or.inl k4)]
    repeat' (first | (simp (disch := omega) only [push_cast, ↓reduceIte, zA, zG, zB, zH, zI, zC, zJ, zK, zL, zD, zE, zF, zM, zN, zO, zP, zQ, reduceCtorEq, not_true_eq_false, not_false_eq_true, b0, b1, b2, b3, e1, e2, e3, e4, addr_add_eq, Nat.zero_add]) | (first | refine iE ?_ ?_ | refine iD ?_ ?_ | refine iQ ?_ ?_ | refine iV ?_ ?_) <;> intro _ | refine And.intro (by omega) ?_ | refine drawn_q ?_ | fail)
    all_goals (refine ⟨congrArg Value.bool ?_, hl⟩)
    all_goals (clear h1 h2 h3 h4 b0 b1 b2 b3 B1 hl)
    all_goals (try (have hnat : ∀ n : Nat, ((f.kids.length : Int) = (n : Int)) = (f.kids.length = n) := fun n => by rw [Int.ofNat_inj]))
    all_goals simp_all
    all_goals (first | omega | done)
  have e4 : decide (f.op = 4) = false := decide_eq_false k4
  by_cases k5 : f.op = 5
  · have e5 : decide (f.op = 5) = true := decide_eq_true k5
    rw [if_neg k1, if_neg k2, if_neg k3, if_pos (Or.inr k5)]
    repeat' (first | (simp (disch := omega) only [push_cast, ↓reduceIte, zA, zG, zB, zH, zI, zC, zJ, zK, zL, zD, zE, zF, zM, zN, zO, zP, zQ, reduceCtorEq, not_true_eq_false, not_false_eq_true, b0, b1, b2, b3, e1, e2, e3, e4, e5, addr_add_eq, Nat.zero_add]) | (first | refine iE ?_ ?_ | refine iD ?_ ?_ | refine iQ ?_ ?_ | refine iV ?_ ?_) <;> intro _ | refine And.intro (by omega) ?_ | refine drawn_q ?_ | fail)
    all_goals (refine ⟨congrArg Value.bool ?_, hl⟩)
    all_goals (clear h1 h2 h3 h4 b0 b1 b2 b3 B1 hl)
    all_goals (try (have hnat : ∀ n : Nat, ((f.kids.length : Int) = (n : Int)) = (f.kids.length = n) := fun n => by rw [Int.ofNat_inj]))
    all_goals simp_all
    all_goals (first | omega | done)
  have e5 : decide (f.op = 5) = false := decide_eq_false k5
  rw [if_neg k1, if_neg k2, if_neg k3, if_neg (by omega)]
  repeat' (first | (simp (disch := omega) only [push_cast, ↓reduceIte, zA, zG, zB, zH, zI, zC, zJ, zK, zL, zD, zE, zF, zM, zN, zO, zP, zQ, reduceCtorEq, not_true_eq_false, not_false_eq_true, b0, b1, b2, b3, e1, e2, e3, e4, e5, addr_add_eq, Nat.zero_add]) | (first | refine iE ?_ ?_ | refine iD ?_ ?_ | refine iQ ?_ ?_ | refine iV ?_ ?_) <;> intro _ | refine And.intro (by omega) ?_ | refine drawn_q ?_ | fail)
  first | exact ⟨(by simp), hl⟩ | exact hl
end Go.Proofs.YtnofalhkapmcnaaGreat
end
section
set_option linter.unusedSimpArgs false
namespace Go.Proofs.YtnofalhkapmcnaaGreat
open Go.Vc Go.Key
set_option maxRecDepth 100000
theorem vStore_ft {K : Value → World → Prop} (f : FT) (w : World) (hf : f.Ok w) (hK : K undef (w.alloc (.cells (ftC f).toArray 29))) :
    vStoreD Tryz.prog 29 (some 4) (.pointer (some ⟨w.heap.size, 0, none⟩)) (.agg (ftC f).toArray) K (w.alloc (.cells #[.int .i64 0, .string ⟨#[]⟩, .string ⟨#[]⟩, .slice none 0 0] 29)) :=
  vStore_new rfl rfl (fun u hu => ftC_one hf u (by simpa using hu)) hK
set_option maxHeartbeats 1000000 in
theorem shaped_c (q : QD) (w : World) (hq : q.Ok w) : FnC Tryz.prog 42 #[.agg (qdC q).toArray] w fun v w' => v = .bool (shOk q) ∧ Later w w' := by
  obtain ⟨to, tc, htv, ht1, ht2⟩ := RecS.slice hq.tv
  obtain ⟨ho, hc, hhv, hh1, hh2⟩ := RecS.slice hq.hv
  obtain ⟨bo, bc, hbv⟩ := Sl.slice hq.bv
  rw [List.length_map] at hbv
  refine enter42 _ ?_
  unfold B42
  have eca : (Value.agg (qdC q).toArray).cells = (qdC q).toArray := rfl
  have l1 := later_alloc w (.cells (qdC q).toArray 32)
  have B1 := Blk.new w (qdC q).toArray 32
  repeat' (first | (simp (disch := omega) only [push_cast, ↓reduceIte, zA, zG, zB, zH, zI, zC, zJ, zK, zL, zD, zE, zF, zM, zN, zO, zP, zQ, reduceCtorEq, not_true_eq_false, not_false_eq_true, eca]) | (first | refine iE ?_ ?_ | refine iD ?_ ?_ | refine iQ ?_ ?_ | refine iV ?_ ?_) <;> intro _ | refine And.intro (by omega) ?_ | refine drawn_q ?_ | fail)
  generalize w.alloc (.cells (qdC q).toArray 32) = w1 at *
  generalize w.heap.size = kf at *
  obtain ⟨a0, _, _, _, a4, a5, a6, a7, a8, a9, _, _⟩ := qdAt B1
  rw [htv] at a0
  rw [hbv] at a4
  rw [hhv] at a9
  cases hsz : szOk q with
  | false =>
    have hsh : shOk q = false := by unfold shOk; rw [hsz]; rfl
    have hn : ¬ (1 ≤ q.tl.length ∧ q.tl.length ≤ 8 ∧ q.bl.length ≤ 6 ∧ q.hl.length ≤ 8) := by
      unfold szOk at hsz
      intro ⟨p1, p2, p3, p4⟩
      simp [p1, p2, p3, p4] at hsz
    rw [hsh]
    have hfail : ∀ b : Bool, (b = true ↔ (1 ≤ q.tl.length ∧ q.tl.length ≤ 8 ∧ q.bl.length ≤ 6 ∧ q.hl.length ≤ 8)) → b = false := fun b hb => by
      cases b with
      | false => rfl
      | true => exact absurd (hb.1 rfl) hn
    by_cases p1 : 1 ≤ q.tl.length
    · have d1 : decide (1 ≤ (q.tl.length : Int)) = true := decide_eq_true (by omega)
      by_cases p2 : q.tl.length ≤ 8
      · have d2 : decide ((q.tl.length : Int) ≤ 8) = true := decide_eq_true (by omega)
        by_cases p3 : q.bl.length ≤ 6
        · have d3 : decide ((q.bl.length : Int) ≤ 6) = true := decide_eq_true (by omega)
          have d4 : decide ((q.hl.length : Int) ≤ 8) = false := decide_eq_false (by omega)
          repeat' (first | (simp (disch := omega) only [push_cast, ↓reduceIte, zA, zG, zB, zH, zI, zC, zJ, zK, zL, zD, zE, zF, zM, zN, zO, zP, zQ, reduceCtorEq, not_true_eq_false, not_false_eq_true, a0, a4, a9, d1, d2, d3, d4, addr_add_eq, Nat.zero_add]) | (first | refine iE ?_ ?_ | refine iD ?_ ?_ | refine iQ ?_ ?_ | refine iV ?_ ?_) <;> intro _ | refine And.intro (by omega) ?_ | refine drawn_q ?_ | fail)
          first | exact ⟨rfl, l1⟩ | exact l1
        · have d3 : decide ((q.bl.length : Int) ≤ 6) = false := decide_eq_false (by omega)
          repeat' (first | (simp (disch := omega) only [push_cast, ↓reduceIte, zA, zG, zB, zH, zI, zC, zJ, zK, zL, zD, zE, zF, zM, zN, zO, zP, zQ, reduceCtorEq, not_true_eq_false, not_false_eq_true, a0, a4, a9, d1, d2, d3, addr_add_eq, Nat.zero_add]) | (first | refine iE ?_ ?_ | refine iD ?_ ?_ | refine iQ ?_ ?_ | refine iV ?_ ?_) <;> intro _ | refine And.intro (by omega) ?_ | refine drawn_q ?_ | fail)
          first | exact ⟨rfl, l1⟩ | exact l1
      · have d2 : decide ((q.tl.length : Int) ≤ 8) = false := decide_eq_false (by omega)
        repeat' (first | (simp (disch := omega) only [push_cast, ↓reduceIte, zA, zG, zB, zH, zI, zC, zJ, zK, zL, zD, zE, zF, zM, zN, zO, zP, zQ, reduceCtorEq, not_true_eq_false, not_false_eq_true, a0, a4, a9, d1, d2, addr_add_eq, Nat.zero_add]) | (first | refine iE ?_ ?_ | refine iD ?_ ?_ | refine iQ ?_ ?_ | refine iV ?_ ?_) <;> intro _ | refine And.intro (by omega) ?_ | refine drawn_q ?_ | fail)
        first | exact ⟨rfl, l1⟩ | exact l1
    · have d1 : decide (1 ≤ (q.tl.length : Int)) = false := decide_eq_false (by omega)
      repeat' (first | (simp (disch := omega) only [push_cast, ↓reduceIte, zA, zG, zB, zH, zI, zC, zJ, zK, zL, zD, zE, zF, zM, zN, zO, zP, zQ, reduceCtorEq, not_true_eq_false, not_false_eq_true, a0, a4, a9, d1, addr_add_eq, Nat.zero_add]) | (first | refine iE ?_ ?_ | refine iD ?_ ?_ | refine iQ ?_ ?_ | refine iV ?_ ?_) <;> intro _ | refine And.intro (by omega) ?_ | refine drawn_q ?_ | fail)
      first | exact ⟨rfl, l1⟩ | exact l1
  | true =>
  have hn : 1 ≤ q.tl.length ∧ q.tl.length ≤ 8 ∧ q.bl.length ≤ 6 ∧ q.hl.length ≤ 8 := by
    unfold szOk at hsz
    simpa [and_assoc] using hsz
  have d1 : decide (1 ≤ (q.tl.length : Int)) = true := decide_eq_true (by omega)
  have d2 : decide ((q.tl.length : Int) ≤ 8) = true := decide_eq_true (by omega)
  have d3 : decide ((q.bl.length : Int) ≤ 6) = true := decide_eq_true (by omega)
  have d4 : decide ((q.hl.length : Int) ≤ 8) = true := decide_eq_true (by omega)
  repeat' (first | (simp (disch := omega) only [push_cast, ↓reduceIte, zA, zG, zB, zH, zI, zC, zJ, zK, zL, zD, zE, zF, zM, zN, zO, zP, zQ, reduceCtorEq, not_true_eq_false, not_false_eq_true, a0, a4, a9, d1, d2, d3, d4, addr_add_eq, Nat.zero_add]) | (first | refine iE ?_ ?_ | refine iD ?_ ?_ | refine iQ ?_ ?_ | refine iV ?_ ?_) <;> intro _ | refine And.intro (by omega) ?_ | refine drawn_q ?_ | fail)
  have h4 := hq.tv
  rw [htv] at h4
  refine (tcontainsF_c _ _ _ #[] (fun t => !tmOk t) w1 (h4.later l1) (fun x _ w' hl => shaped1_c x w')).mono ?_
  rintro _ w2 ⟨rfl, l2⟩
  rw [any_not]
  have l02 := l1.trans l2
  obtain ⟨b0, _, _, _, b4, b5, b6, b7, b8, b9, _, _⟩ := qdAt (qdLater B1 l2)
  rw [hhv] at b9
  cases hta : q.tl.all tmOk with
  | false =>
    have hsh : shOk q = false := by unfold shOk; rw [hsz, hta]; simp
    rw [hsh]
    repeat' (first | (simp (disch := omega) only [push_cast, ↓reduceIte, zA, zG, zB, zH, zI, zC, zJ, zK, zL, zD, zE, zF, zM, zN, zO, zP, zQ, reduceCtorEq, not_true_eq_false, not_false_eq_true]) | (first | refine iE ?_ ?_ | refine iD ?_ ?_ | refine iQ ?_ ?_ | refine iV ?_ ?_) <;> intro _ | refine And.intro (by omega) ?_ | refine drawn_q ?_ | fail)
    first | exact ⟨rfl, l02⟩ | exact l02
  | true =>
  have h5 := hq.hv
  rw [hhv] at h5
  repeat' (first | (simp (disch := omega) only [push_cast, ↓reduceIte, zA, zG, zB, zH, zI, zC, zJ, zK, zL, zD, zE, zF, zM, zN, zO, zP, zQ, reduceCtorEq, not_true_eq_false, not_false_eq_true, b9, addr_add_eq, Nat.zero_add]) | (first | refine iE ?_ ?_ | refine iD ?_ ?_ | refine iQ ?_ ?_ | refine iV ?_ ?_) <;> intro _ | refine And.intro (by omega) ?_ | refine drawn_q ?_ | fail)
  refine (hcontainsF_c _ _ _ #[] (fun t => !hvOk t) w2 (h5.later l02) (fun x _ w' hl => shaped2_c x w')).mono ?_
  rintro _ w3 ⟨rfl, l3⟩
  rw [any_not]
  have l03 := l02.trans l3
  have B3 := qdLater B1 (l2.trans l3)
  obtain ⟨_, _, _, _, _, b5, b6, b7, b8, b9, _, _⟩ := qdAt B3
  cases hha : q.hl.all hvOk with
  | false =>
    have hsh : shOk q = false := by unfold shOk; rw [hsz, hta, hha]; simp
    rw [hsh]
    repeat' (first | (simp (disch := omega) only [push_cast, ↓reduceIte, zA, zG, zB, zH, zI, zC, zJ, zK, zL, zD, zE, zF, zM, zN, zO, zP, zQ, reduceCtorEq, not_true_eq_false, not_false_eq_true]) | (first | refine iE ?_ ?_ | refine iD ?_ ?_ | refine iQ ?_ ?_ | refine iV ?_ ?_) <;> intro _ | refine And.intro (by omega) ?_ | refine drawn_q ?_ | fail)
    first | exact ⟨rfl, l03⟩ | exact l03
  | true =>
  have hsh : shOk q = whOk q.wh := by unfold shOk; rw [hsz, hta, hha]; simp
  rw [hsh]
  have FW : ∀ w', Later w1 w' → cellsAt w' ⟨kf, 5, none⟩ 4 = some (ftC q.wh) := by
    intro w' hl
    obtain ⟨_, _, _, _, _, b5, b6, b7, b8, _, _, _⟩ := qdAt (qdLater B1 hl)
    refine cellsAt_of 4 _ _ rfl fun i y hx => ?_
    rw [addr_add_eq]
    match i, hx with
    | 0, hx => cases hx; exact b5
    | 1, hx => cases hx; exact b6
    | 2, hx => cases hx; exact b7
    | 3, hx => cases hx; exact b8
    | n + 4, hx => exact absurd hx (by simp [ftC])
  have fw := FW w3 (l2.trans l3)
  have hwh := hq.wh.later l03
  repeat' (first | (simp (disch := omega) only [push_cast, ↓reduceIte, zA, zG, zB, zH, zI, zC, zJ, zK, zL, zD, zE, zF, zM, zN, zO, zP, zQ, reduceCtorEq, not_true_eq_false, not_false_eq_true, fw, addr_add_eq, Nat.zero_add]) | (first | refine iE ?_ ?_ | refine iD ?_ ?_ | refine iQ ?_ ?_ | refine iV ?_ ?_) <;> intro _ | refine And.intro (by omega) ?_ | refine drawn_q ?_ | fail)
  refine vStore_ft q.wh w3 hwh ?_
  obtain ⟨l4, s4, B4⟩ := ftBox w3 q.wh
  generalize w3.alloc (.cells (ftC q.wh).toArray 29) = w4 at *
  generalize w3.heap.size = kw at *
  obtain ⟨c0, c1, c2, c3⟩ := ftAt B4
  obtain ⟨h1, h2, h3, h4k, h5k⟩ := FT.ok_iff.1 hwh
  obtain ⟨ko, kc, hkv, hc1, hc2⟩ := RecS.slice h4k
  rw [hkv] at c3
  have fw4 := FW w4 (l2.trans (l3.trans l4))
  unfold whOk
  have l04 := l03.trans l4
  by_cases k0 : q.wh.op = 0
  · have e0 : decide (q.wh.op = 0) = true := decide_eq_true k0
    rw [if_pos k0]
    repeat' (first | (simp (disch := omega) only [push_cast, ↓reduceIte, zA, zG, zB, zH, zI, zC, zJ, zK, zL, zD, zE, zF, zM, zN, zO, zP, zQ, reduceCtorEq, not_true_eq_false, not_false_eq_true, c0, c1, c2, c3, e0, addr_add_eq, Nat.zero_add]) | (first | refine iE ?_ ?_ | refine iD ?_ ?_ | refine iQ ?_ ?_ | refine iV ?_ ?_) <;> intro _ | refine And.intro (by omega) ?_ | refine drawn_q ?_ | fail)
    all_goals (refine ⟨congrArg Value.bool ?_, l04⟩)
    all_goals (clear c0 c1 c2 c3 b5 b6 b7 b8 b9 B1 B3 B4 FW fw fw4 hwh h4k h5k h4 h5 l1 l2 l3 l4 l03 l04 l02 hq a0 a4 a5 a6 a7 a8 a9 eca htv hhv hbv hkv)
    all_goals simp_all
  · have e0 : decide (q.wh.op = 0) = false := decide_eq_false k0
    rw [if_neg k0]
    repeat' (first | (simp (disch := omega) only [push_cast, ↓reduceIte, zA, zG, zB, zH, zI, zC, zJ, zK, zL, zD, zE, zF, zM, zN, zO, zP, zQ, reduceCtorEq, not_true_eq_false, not_false_eq_true, c0, e0, fw4, addr_add_eq, Nat.zero_add]) | (first | refine iE ?_ ?_ | refine iD ?_ ?_ | refine iQ ?_ ?_ | refine iV ?_ ?_) <;> intro _ | refine And.intro (by omega) ?_ | refine drawn_q ?_ | fail)
    refine (formed_c q.wh 30 w4 (by omega) (hq.wh.later l04)).mono ?_
    rintro _ w5 ⟨rfl, l5⟩
    repeat' (first | (simp (disch := omega) only [push_cast, ↓reduceIte, zA, zG, zB, zH, zI, zC, zJ, zK, zL, zD, zE, zF, zM, zN, zO, zP, zQ, reduceCtorEq, not_true_eq_false, not_false_eq_true]) | (first | refine iE ?_ ?_ | refine iD ?_ ?_ | refine iQ ?_ ?_ | refine iV ?_ ?_) <;> intro _ | refine And.intro (by omega) ?_ | refine drawn_q ?_ | fail)
    first | exact ⟨rfl, (l04.trans l5)⟩ | exact (l04.trans l5)
end Go.Proofs.YtnofalhkapmcnaaGreat
end
section
set_option linter.unusedSimpArgs false
namespace Go.Proofs.YtnofalhkapmcnaaGreat
open Go.Vc Go.Key
set_option maxRecDepth 100000
theorem tdC_one (t : TD) : ∀ u ∈ tdC t, u.oneCell' = true := by
  intro u hu
  simp only [tdC, List.mem_cons, List.not_mem_nil, or_false] at hu
  rcases hu with rfl | rfl <;> rfl
abbrev OwnT (w : World) (B : Nat) (v : Value) (l : List TD) : Prop := OwnR tdC 2 w B 58 v l
theorem tclone_c (v : Value) (l : List TD) (w : World) (h : RecS tdC 2 w v l) (hb : l.length ≤ 1000000) : FnC Tryz.prog 83 #[v] w fun r w' => OwnT w' w.heap.size r l ∧ Later w w' := by
  have hlen : l.length = 0 → l = [] := List.length_eq_zero_iff.1
  have h0 := h
  obtain ⟨hl, hr⟩ := h
  refine enter83 _ ?_
  unfold B83
  rcases hr with ⟨rfl, hz⟩ | ⟨ad, c, rfl, hc1, hc2, hc3⟩
  · rw [hlen hz]
    repeat' (first | (simp (disch := omega) only [push_cast, ↓reduceIte, zA, zG, zB, zH, zI, zC, zJ, zK, zL, zD, zE, zF, zM, zN, zO, zP, zQ, reduceCtorEq, not_true_eq_false, not_false_eq_true]) | (first | refine iE ?_ ?_ | refine iD ?_ ?_ | refine iQ ?_ ?_ | refine iV ?_ ?_) <;> intro _ | refine And.intro (by omega) ?_ | refine drawn_q ?_ | fail)
    first | exact ⟨(OwnR.nil w w.heap.size 58), (Later.refl _)⟩ | exact (Later.refl _)
  · repeat' (first | (simp (disch := omega) only [push_cast, ↓reduceIte, zA, zG, zB, zH, zI, zC, zJ, zK, zL, zD, zE, zF, zM, zN, zO, zP, zQ, reduceCtorEq, not_true_eq_false, not_false_eq_true]) | (first | refine iE ?_ ?_ | refine iD ?_ ?_ | refine iQ ?_ ?_ | refine iV ?_ ?_) <;> intro _ | refine And.intro (by omega) ?_ | refine drawn_q ?_ | fail)
    have l1 := later_alloc w (.cells #[] 58)
    refine vAppend_fresh Tryz.underlying25 ti58 rfl (by decide) (h0.later l1) (by unfold maxLen; omega) (by omega) ?_
    intro v' w'' h0 h1
    rcases Nat.eq_zero_or_pos l.length with hz | hz
    · obtain ⟨rfl, rfl⟩ := h0 hz
      rw [hlen hz]
      have hno : OwnT (w.alloc (.cells #[] 58)) w.heap.size (.slice (some ⟨w.heap.size, 0, none⟩) 0 0) [] := OwnR.lit0 w _ (Nat.le_refl _)
      repeat' (first | (simp (disch := omega) only [push_cast, ↓reduceIte, zA, zG, zB, zH, zI, zC, zJ, zK, zL, zD, zE, zF, zM, zN, zO, zP, zQ, reduceCtorEq, not_true_eq_false, not_false_eq_true]) | (first | refine iE ?_ ?_ | refine iD ?_ ?_ | refine iQ ?_ ?_ | refine iV ?_ ?_) <;> intro _ | refine And.intro (by omega) ?_ | refine drawn_q ?_ | fail)
      first | exact ⟨hno, l1⟩ | exact l1
    · obtain ⟨ho, hll⟩ := h1 hz
      repeat' (first | (simp (disch := omega) only [push_cast, ↓reduceIte, zA, zG, zB, zH, zI, zC, zJ, zK, zL, zD, zE, zF, zM, zN, zO, zP, zQ, reduceCtorEq, not_true_eq_false, not_false_eq_true]) | (first | refine iE ?_ ?_ | refine iD ?_ ?_ | refine iQ ?_ ?_ | refine iV ?_ ?_) <;> intro _ | refine And.intro (by omega) ?_ | refine drawn_q ?_ | fail)
      first | exact ⟨(own_base ho l1.size), (l1.trans hll)⟩ | exact (l1.trans hll)
theorem vAppend_td {w : World} {K : Value → World → Prop} {ty : TypeId} {B : Nat} {v x : Value} {l r : List TD} (hown : OwnT w B v l) (hx : RecS tdC 2 w x r) (h63 : l.length + r.length ≤ 1000000000) (hbase : B ≤ w.heap.size)
    (hK : ∀ v' w', OwnT w' B v' (l ++ r) → w.grownBy w' v.ownBlock → (v'.ownBlock = v.ownBlock ∨ v'.ownBlock = some w.heap.size) → K v' w') : vAppend Tryz.prog #[25, 25] ty #[v, x] K w :=
  vAppend_rs tdC_len tdC_one Tryz.underlying25 ti58 rfl (by decide) hown hx h63 (by decide) hbase hK
/-- What the names' closures ask of where the schema stands. -/
def ScAt (k : Nat) (d m : List ByteArray) (w : World) : Prop := ∃ dv mv, w.cell? ⟨k, 0, none⟩ = some dv ∧ w.cell? ⟨k, 1, none⟩ = some mv ∧ StS w dv d ∧ StS w mv m
theorem ScAt.later {k : Nat} {d m : List ByteArray} {w w' : World} (h : ScAt k d m w) (hl : Later w w') : ScAt k d m w' := by
  obtain ⟨dv, mv, h1, h2, h3, h4⟩ := h
  exact ⟨dv, mv, hl.cell h1, hl.cell h2, Sl.later h3 hl, Sl.later h4 hl⟩
theorem named1_c (t : TD) (k : Nat) (d m : List ByteArray) (w : World) (h : ScAt k d m w) : FnC Tryz.prog 84 #[.agg (tdC t).toArray, pt k] w fun r w' => r = .bool (!mtOk m t) ∧ Later w w' := by
  refine enter84 _ _ ?_
  unfold B84
  have eca : (Value.agg (tdC t).toArray).cells = (tdC t).toArray := rfl
  have l1 := later_alloc w (.cells (tdC t).toArray 58)
  have B1 := Blk.new w (tdC t).toArray 58
  repeat' (first | (simp (disch := omega) only [push_cast, ↓reduceIte, zA, zG, zB, zH, zI, zC, zJ, zK, zL, zD, zE, zF, zM, zN, zO, zP, zQ, reduceCtorEq, not_true_eq_false, not_false_eq_true, eca]) | (first | refine iE ?_ ?_ | refine iD ?_ ?_ | refine iQ ?_ ?_ | refine iV ?_ ?_) <;> intro _ | refine And.intro (by omega) ?_ | refine drawn_q ?_ | fail)
  generalize w.alloc (.cells (tdC t).toArray 58) = w1 at *
  generalize w.heap.size = kf at *
  obtain ⟨dv, mv, h1, h2, h3, h4⟩ := h.later l1
  have a0 : w1.cell? ⟨kf, 0, none⟩ = some (.int .i64 t.f) := B1.cell 0
  have a1 : w1.cell? ⟨kf, 1, none⟩ = some (.string t.m) := B1.cell 1
  unfold mtOk
  obtain ⟨mo, mc, hmv, hm1, hm2, hm3, hm4⟩ := h4.openM
  by_cases hz : t.f = 0
  · have e0 : decide (t.f = 0) = true := decide_eq_true hz
    rw [e0]
    repeat' (first | (simp (disch := omega) only [push_cast, ↓reduceIte, zA, zG, zB, zH, zI, zC, zJ, zK, zL, zD, zE, zF, zM, zN, zO, zP, zQ, reduceCtorEq, not_true_eq_false, not_false_eq_true, a0, a1, h2, e0, addr_add_eq, Nat.zero_add]) | (first | refine iE ?_ ?_ | refine iD ?_ ?_ | refine iQ ?_ ?_ | refine iV ?_ ?_) <;> intro _ | refine And.intro (by omega) ?_ | refine drawn_q ?_ | fail)
    first | exact ⟨rfl, l1⟩ | exact l1
  · have e0 : decide (t.f = 0) = false := decide_eq_false hz
    rw [e0]
    rw [hmv] at h2 h4
    repeat' (first | (simp (disch := omega) only [push_cast, ↓reduceIte, zA, zG, zB, zH, zI, zC, zJ, zK, zL, zD, zE, zF, zM, zN, zO, zP, zQ, reduceCtorEq, not_true_eq_false, not_false_eq_true, a0, a1, h2, e0, addr_add_eq, Nat.zero_add]) | (first | refine iE ?_ ?_ | refine iD ?_ ?_ | refine iQ ?_ ?_ | refine iV ?_ ?_) <;> intro _ | refine And.intro (by omega) ?_ | refine drawn_q ?_ | fail)
    refine (scontains_c _ m t.m w1 h4).mono ?_
    rintro _ w2 ⟨rfl, hw⟩; obtain rfl := hw.symm
    repeat' (first | (simp (disch := omega) only [push_cast, ↓reduceIte, zA, zG, zB, zH, zI, zC, zJ, zK, zL, zD, zE, zF, zM, zN, zO, zP, zQ, reduceCtorEq, not_true_eq_false, not_false_eq_true]) | (first | refine iE ?_ ?_ | refine iD ?_ ?_ | refine iQ ?_ ?_ | refine iV ?_ ?_) <;> intro _ | refine And.intro (by omega) ?_ | refine drawn_q ?_ | fail)
    first | exact ⟨rfl, l1⟩ | exact l1
theorem named2_c (x : ByteArray) (k : Nat) (d m : List ByteArray) (w : World) (h : ScAt k d m w) : FnC Tryz.prog 86 #[.string x, pt k] w fun r w' => r = .bool (!inL x d) ∧ Later w w' := by
  refine enter86 _ _ ?_
  unfold B86
  obtain ⟨dv, mv, h1, h2, h3, h4⟩ := h
  obtain ⟨mo, mc, hmv, hm1, hm2, hm3, hm4⟩ := h3.openM
  rw [hmv] at h1 h3
  repeat' (first | (simp (disch := omega) only [push_cast, ↓reduceIte, zA, zG, zB, zH, zI, zC, zJ, zK, zL, zD, zE, zF, zM, zN, zO, zP, zQ, reduceCtorEq, not_true_eq_false, not_false_eq_true, h1, addr_add_eq, Nat.zero_add]) | (first | refine iE ?_ ?_ | refine iD ?_ ?_ | refine iQ ?_ ?_ | refine iV ?_ ?_) <;> intro _ | refine And.intro (by omega) ?_ | refine drawn_q ?_ | fail)
  refine (scontains_c _ d x w h3).mono ?_
  rintro _ w2 ⟨rfl, hw⟩; obtain rfl := hw.symm
  repeat' (first | (simp (disch := omega) only [push_cast, ↓reduceIte, zA, zG, zB, zH, zI, zC, zJ, zK, zL, zD, zE, zF, zM, zN, zO, zP, zQ, reduceCtorEq, not_true_eq_false, not_false_eq_true]) | (first | refine iE ?_ ?_ | refine iD ?_ ?_ | refine iQ ?_ ?_ | refine iV ?_ ?_) <;> intro _ | refine And.intro (by omega) ?_ | refine drawn_q ?_ | fail)
  first | exact ⟨rfl, (Later.refl _)⟩ | exact (Later.refl _)
set_option maxHeartbeats 1000000 in
theorem named_c (dv mv : Value) (d m : List ByteArray) (q : QD) (w : World) (h : ScIs w dv mv d m) (hq : q.Ok w) (hcn : q.wh.cnt ≤ 1000000) (hbl : q.bl.length ≤ 1000) (htl : q.tl.length ≤ 1000) (hhl : q.hl.length ≤ 1000) : FnC Tryz.prog 43 #[scV dv mv, .agg (qdC q).toArray] w fun v w' => v = .bool (nsOk d m q) ∧ Later w w' := by
  have esc : scV dv mv = .agg #[dv, mv] := rfl
  rw [esc]
  refine enter43 _ _ ?_
  unfold B43
  have eca : (Value.agg (qdC q).toArray).cells = (qdC q).toArray := rfl
  have ecb : (Value.agg #[dv, mv]).cells = #[dv, mv] := rfl
  obtain ⟨l1, s1, F⟩ := box2 w dv mv 24
  have B2 := Blk.new (w.alloc (.cells #[dv, mv] 24)) (qdC q).toArray 32
  have l2 := later_alloc (w.alloc (.cells #[dv, mv] 24)) (.cells (qdC q).toArray 32)
  rw [s1] at B2
  repeat' (first | (simp (disch := omega) only [push_cast, ↓reduceIte, zA, zG, zB, zH, zI, zC, zJ, zK, zL, zD, zE, zF, zM, zN, zO, zP, zQ, reduceCtorEq, not_true_eq_false, not_false_eq_true, eca, ecb, s1]) | (first | refine iE ?_ ?_ | refine iD ?_ ?_ | refine iQ ?_ ?_ | refine iV ?_ ?_) <;> intro _ | refine And.intro (by omega) ?_ | fail)
  have l12 := l1.trans l2
  have FF : ∀ w', Later ((w.alloc (.cells #[dv, mv] 24)).alloc (.cells (qdC q).toArray 32)) w' → w'.cell? ⟨w.heap.size, 0, none⟩ = some dv ∧ w'.cell? ⟨w.heap.size, 1, none⟩ = some mv := fun w' hl => ⟨(F w' (l2.trans hl)).1, (F w' (l2.trans hl)).2.1⟩
  clear F
  generalize (w.alloc (.cells #[dv, mv] 24)).alloc (.cells (qdC q).toArray 32) = w1 at *
  generalize hkf : w.heap.size = kf at *
  have h1 := h.later l12
  have q1 := hq.later l12
  have SA : ScAt kf d m w1 := ⟨dv, mv, (FF w1 (Later.refl _)).1, (FF w1 (Later.refl _)).2, h1.dS, h1.mS⟩
  obtain ⟨a0, _⟩ := qdAt B2
  repeat' (first | (simp (disch := omega) only [push_cast, ↓reduceIte, zA, zG, zB, zH, zI, zC, zJ, zK, zL, zD, zE, zF, zM, zN, zO, zP, zQ, reduceCtorEq, not_true_eq_false, not_false_eq_true, a0, addr_add_eq, Nat.zero_add]) | (first | refine iE ?_ ?_ | refine iD ?_ ?_ | refine iQ ?_ ?_ | refine iV ?_ ?_) <;> intro _ | refine And.intro (by omega) ?_ | refine drawn_q ?_ | fail)
  refine (tclone_c q.tv q.tl w1 q1.tv (by omega)).mono ?_
  rintro tv w2 ⟨ho2, l3⟩
  obtain ⟨_, _, _, _, _, _, _, _, _, b9, _⟩ := qdAt (qdLater B2 l3)
  obtain ⟨ho, hc, hhv, hh1, hh2⟩ := RecS.slice hq.hv
  rw [hhv] at b9
  repeat' (first | (simp (disch := omega) only [push_cast, ↓reduceIte, zA, zG, zB, zH, zI, zC, zJ, zK, zL, zD, zE, zF, zM, zN, zO, zP, zQ, reduceCtorEq, not_true_eq_false, not_false_eq_true, b9, addr_add_eq, Nat.zero_add]) | (first | refine iE ?_ ?_ | refine iD ?_ ?_ | refine iQ ?_ ?_ | refine iV ?_ ?_) <;> intro _ | refine And.intro (by omega) ?_ | refine drawn_q ?_ | fail)
  have hhs := (q1.later l3).hv
  rw [hhv] at hhs
  refine vc_loop W43_0 (fun p : Nat × Value => [(5, p.2), (14, .int .i64 (p.1 : Int))]) (fun p w' => p.1 ≤ q.hl.length ∧ Later w1 w' ∧ OwnT w' w1.heap.size p.2 (q.tl ++ (q.hl.take p.1).map HD.t) ∧ RecS hdC 4 w' (.slice ho q.hl.length hc) q.hl) (fun p => q.hl.length - p.1) (0, tv) (by decide) ?_ ?_ ?_
  · simp (disch := omega) only [push_cast, ↓reduceIte, zA, zG, zB, zH, zI, zC, zJ, zK, zL, zD, zE, zF, zM, zN, zO, zP, zQ, reduceCtorEq, not_true_eq_false, not_false_eq_true]
    try rfl
  · exact ⟨Nat.zero_le _, l3, by simpa using ho2, hhs⟩
  rintro ⟨i, x⟩ uu w4 ⟨hi, l4, ho4, hH⟩
  dsimp only at hi ho4 ⊢
  by_cases hik : i < q.hl.length
  · have hd2 : decide ((i : Int) < (q.hl.length : Int)) = true := decide_eq_true (by omega)
    obtain ⟨a, rfl, fa⟩ := RecS.at hdC_len hH hik
    have hst : (q.hl.take (i + 1)).map HD.t = (q.hl.take i).map HD.t ++ [(q.hl[i]).t] := by
      rw [List.take_succ_eq_append_getElem hik, List.map_append]; rfl
    generalize q.hl[i] = y at *
    repeat' (first | (simp (disch := omega) only [push_cast, ↓reduceIte, zA, zG, zB, zH, zI, zC, zJ, zK, zL, zD, zE, zF, zM, zN, zO, zP, zQ, reduceCtorEq, not_true_eq_false, not_false_eq_true, hd2, fa, addr_add_eq, Nat.zero_add]) | (first | refine iE ?_ ?_ | refine iD ?_ ?_ | refine iQ ?_ ?_ | refine iV ?_ ?_) <;> intro _ | refine And.intro (by omega) ?_ | refine drawn_q ?_ | fail)
    refine vStore_hd y w4 ?_
    have l5 := later_alloc w4 (.cells (hdC y).toArray 103)
    have B5 := Blk.new w4 (hdC y).toArray 103
    generalize w4.alloc (.cells (hdC y).toArray 103) = w5 at *
    generalize w4.heap.size = k4 at *
    have fx : cellsAt w5 ⟨k4, 0, none⟩ 2 = some (tdC y.t) := by
      refine cellsAt_of 2 _ _ rfl fun i z hx => ?_
      rw [addr_add_eq]
      match i, hx with
      | 0, hx => cases hx; exact B5.cell 0
      | 1, hx => cases hx; exact B5.cell 1
      | n + 2, hx => exact absurd hx (by simp [tdC])
    have etd : (Value.agg (tdC y.t).toArray) = .agg #[.int .i64 y.t.f, .string y.t.m] := rfl
    repeat' (first | (simp (disch := omega) only [push_cast, ↓reduceIte, zA, zG, zB, zH, zI, zC, zJ, zK, zL, zD, zE, zF, zM, zN, zO, zP, zQ, reduceCtorEq, not_true_eq_false, not_false_eq_true, fx, etd, addr_add_eq, Nat.zero_add]) | (first | refine iE ?_ ?_ | refine iD ?_ ?_ | refine iQ ?_ ?_ | refine iV ?_ ?_) <;> intro _ | refine And.intro (by omega) ?_ | refine drawn_q ?_ | fail)
    have ho5 := OwnR.later ho4 l5
    have hll : (q.tl ++ (q.hl.take i).map HD.t).length ≤ 2000 := by
      rw [List.length_append, List.length_map, List.length_take]; omega
    have hH5 := hH.later l5
    have l15 := l4.trans l5
    have e2 : (tdC y.t).toArray = #[.int .i64 y.t.f, .string y.t.m] := rfl
    have l7 := later_alloc w5 (.cells (tdC y.t).toArray 58)
    have Bl := Blk.new w5 (tdC y.t).toArray 58
    have hx7 := RecS.lit1 (tdC_len y.t) Bl
    rw [e2] at l7 Bl hx7
    generalize w5.alloc (.cells #[.int .i64 y.t.f, .string y.t.m] 58) = w7 at *
    replace ho5 := OwnR.later ho5 l7
    replace hH5 := hH5.later l7
    replace l15 := l15.trans l7
    refine vAppend_td (r := [y.t]) ho5 hx7 (by simp only [List.length_cons, List.length_nil]; omega) l15.size ?_
    intro v' w' ho' hg _
    have l6 : Later w1 w' := l15.appended ho5 (Nat.le_refl _) hg
    rw [List.append_assoc, ← hst] at ho'
    have hH6 : RecS hdC 4 w' (.slice (some a) q.hl.length hc) q.hl := by
      have := (q1.later l6).hv
      rwa [hhv] at this
    repeat' (first | (simp (disch := omega) only [push_cast, ↓reduceIte, zA, zG, zB, zH, zI, zC, zJ, zK, zL, zD, zE, zF, zM, zN, zO, zP, zQ, reduceCtorEq, not_true_eq_false, not_false_eq_true]) | (first | refine iE ?_ ?_ | refine iD ?_ ?_ | refine iQ ?_ ?_ | refine iV ?_ ?_) <;> intro _ | refine And.intro (by omega) ?_ | refine drawn_q ?_ | fail)
    exact ⟨rfl, (i + 1, v'), by simp (disch := omega) only [push_cast, ↓reduceIte, zA, zG, zB, zH, zI, zC, zJ, zK, zL, zD, zE, zF, zM, zN, zO, zP, zQ, reduceCtorEq, not_true_eq_false, not_false_eq_true], ⟨by dsimp only; omega, l6, ho', hH6⟩, by dsimp only; omega⟩
  have hd2 : decide ((i : Int) < (q.hl.length : Int)) = false := decide_eq_false (by omega)
  rw [List.take_of_length_le (by omega)] at ho4
  have S4 := SA.later l4
  repeat' (first | (simp (disch := omega) only [push_cast, ↓reduceIte, zA, zG, zB, zH, zI, zC, zJ, zK, zL, zD, zE, zF, zM, zN, zO, zP, zQ, reduceCtorEq, not_true_eq_false, not_false_eq_true, hd2, addr_add_eq, Nat.zero_add]) | (first | refine iE ?_ ?_ | refine iD ?_ ?_ | refine iQ ?_ ?_ | refine iV ?_ ?_) <;> intro _ | refine And.intro (by omega) ?_ | refine drawn_q ?_ | fail)
  refine (tcontainsF_c _ _ _ #[pt kf] (fun t => !mtOk m t) w4 (OwnR.s ho4) (fun x _ w' hl => named1_c x kf d m w' (S4.later hl))).mono ?_
  rintro _ w5 ⟨rfl, l5⟩
  rw [any_not]
  have hns : nsOk d m q = ((q.bl ++ q.wh.dims).all (fun s => inL s d) && (q.tl ++ q.hl.map HD.t).all (mtOk m)) := by
    unfold nsOk
    rw [List.all_append (xs := q.tl), List.all_map, Bool.and_assoc]
    rfl
  rw [hns]
  have l05 := l12.trans (l4.trans l5)
  cases (q.tl ++ q.hl.map HD.t).all (mtOk m) with
  | false =>
    rw [Bool.and_false]
    repeat' (first | (simp (disch := omega) only [push_cast, ↓reduceIte, zA, zG, zB, zH, zI, zC, zJ, zK, zL, zD, zE, zF, zM, zN, zO, zP, zQ, reduceCtorEq, not_true_eq_false, not_false_eq_true]) | (first | refine iE ?_ ?_ | refine iD ?_ ?_ | refine iQ ?_ ?_ | refine iV ?_ ?_) <;> intro _ | refine And.intro (by omega) ?_ | refine drawn_q ?_ | fail)
    first | exact ⟨rfl, l05⟩ | exact l05
  | true =>
  rw [Bool.and_true]
  have c5 := Blk.cellsAt (l := qdC q) (qdLater B2 (l4.trans l5))
  have c5 : cellsAt w5 ⟨kf + 1, 0, none⟩ 12 = some (qdC q) := c5
  repeat' (first | (simp (disch := omega) only [push_cast, ↓reduceIte, zA, zG, zB, zH, zI, zC, zJ, zK, zL, zD, zE, zF, zM, zN, zO, zP, zQ, reduceCtorEq, not_true_eq_false, not_false_eq_true, c5, addr_add_eq, Nat.zero_add]) | (first | refine iE ?_ ?_ | refine iD ?_ ?_ | refine iQ ?_ ?_ | refine iV ?_ ?_) <;> intro _ | refine And.intro (by omega) ?_ | refine drawn_q ?_ | fail)
  refine (tdims_c q w5 (q1.later (l4.trans l5)) hcn hbl).mono ?_
  rintro nv w6 ⟨hn6, l6⟩
  have S6 := S4.later (l5.trans l6)
  repeat' (first | (simp (disch := omega) only [push_cast, ↓reduceIte, zA, zG, zB, zH, zI, zC, zJ, zK, zL, zD, zE, zF, zM, zN, zO, zP, zQ, reduceCtorEq, not_true_eq_false, not_false_eq_true]) | (first | refine iE ?_ ?_ | refine iD ?_ ?_ | refine iQ ?_ ?_ | refine iV ?_ ?_) <;> intro _ | refine And.intro (by omega) ?_ | refine drawn_q ?_ | fail)
  refine (scontainsF_c _ _ _ #[pt kf] (fun x => !inL x d) w6 hn6.st (fun x _ w' hl => named2_c x kf d m w' (S6.later hl))).mono ?_
  rintro _ w7 ⟨rfl, l7⟩
  rw [any_not]
  repeat' (first | (simp (disch := omega) only [push_cast, ↓reduceIte, zA, zG, zB, zH, zI, zC, zJ, zK, zL, zD, zE, zF, zM, zN, zO, zP, zQ, reduceCtorEq, not_true_eq_false, not_false_eq_true]) | (first | refine iE ?_ ?_ | refine iD ?_ ?_ | refine iQ ?_ ?_ | refine iV ?_ ?_) <;> intro _ | refine And.intro (by omega) ?_ | refine drawn_q ?_ | fail)
  first | exact ⟨(by simp), (l05.trans (l6.trans l7))⟩ | exact (l05.trans (l6.trans l7))
end Go.Proofs.YtnofalhkapmcnaaGreat
end
section
namespace Go.Vc
open Go.RowKit Go.Sort
/-- A contract in the plain sense, as a contract of mine. -/
theorem FnC.of_calls {P : Program} {f : FuncId} {args : Array Value} {w : World} {R : Value → World → Prop} {Q : Ending → World → Prop} (hb : HasBody P f) (h : Calls P f args w Q) (hR : ∀ e w', Q e w' → ∃ v, e = .returned v ∧ R v w') : FnC P f args w R :=
  hb.fn (Calls.mono h hR)
theorem heap_mapBlock {w : World} {k : Nat} {f : Array Value → Array Value} {cs : Array Value} {e : TypeId} (h : Blk w k cs e) : Blk (mapBlock w k f) k (f cs) e := by
  unfold Blk at *
  unfold mapBlock
  simp [Array.getElem?_modify, h, onCells]
theorem heap_mapBlock_ne (w : World) {k j : Nat} (f : Array Value → Array Value) (h : k ≠ j) : (mapBlock w k f).heap[j]? = w.heap[j]? := by
  unfold mapBlock
  simp [Array.getElem?_modify, h]
/-- A row that the call owns, put anew in place; blocks behind. -/
theorem own_put {α : Type} [Inhabited α] {enc : α → Value} {w : World} {base n c g q : Nat} {e : TypeId} {l : List α} {d : Array α} {os : Array Obj} (h : w.ownsRow base e 1 (.slice (some ⟨g, 0, none⟩) n c) n (l.map enc)) (hd : d.size = n) :
    (grow (putRow enc (Sort.ahead w q) g 0 d) os).ownsRow base e 1 (.slice (some ⟨g, 0, none⟩) n c) n (d.toList.map enc) ∧ Chg w (grow (putRow enc (Sort.ahead w q) g 0 d) os) [g] := by
  obtain ⟨h0, h⟩ := h
  rcases h with ⟨h, _⟩ | ⟨g', cap, cur, hv, hb, hh, h1, h2, h3, h4⟩
  · cases h
  · simp only [Value.slice.injEq, Option.some.injEq] at hv
    obtain ⟨e1, -, e2⟩ := hv
    subst e2
    have hg : g' = g := by have := congrArg Addr.block e1; simpa using this.symm
    subst hg
    have hB : Blk (Sort.ahead w q) g' cur e := hh
    have hB2 := heap_mapBlock (f := putCells enc 0 d) hB
    have hlt : g' < w.heap.size := Blk.lt (cs := cur) (e := e) hh
    have hsz : (putRow enc (Sort.ahead w q) g' 0 d).heap.size = w.heap.size := by rw [size_putRow]; rfl
    refine ⟨⟨by simp [hd], .inr ⟨g', c, putCells enc 0 d cur, rfl, hb, ?_, h1, h2, by simpa [putCells] using h3, ?_⟩⟩, ⟨rfl, rfl, rfl, ?_, ?_⟩⟩
    · rw [heap_grow_old _ _ (by rw [hsz]; exact hlt)]
      exact hB2
    · have hc : cur.size = c := by simpa using h3
      apply List.ext_getElem
      · simp [putCells, hd]; omega
      · intro i i1 i2
        have hi : i < d.size := by simpa using i2
        simp [putCells, hi, getElem!_pos]
    · show w.heap.size ≤ ((putRow enc (Sort.ahead w q) g' 0 d).heap ++ os).size
      rw [Array.size_append, hsz]; omega
    · intro k hk hn
      rw [heap_grow_old _ _ (by rw [hsz]; exact hk)]
      exact heap_mapBlock_ne _ _ (fun e => hn (by simp [e]))
theorem holds_own {α : Type} [Inhabited α] {enc : α → Value} {w : World} {base n c g : Nat} {e : TypeId} {l : List α} (h : w.ownsRow base e 1 (.slice (some ⟨g, 0, none⟩) n c) n (l.map enc)) : Holds enc w g 0 l.toArray ∧ g < w.heap.size ∧ base ≤ g := by
  obtain ⟨h0, h⟩ := h
  rcases h with ⟨h, _⟩ | ⟨g', cap, cur, hv, hb, hh, h1, h2, h3, h4⟩
  · cases h
  · simp only [Value.slice.injEq, Option.some.injEq] at hv
    obtain ⟨e1, -, e2⟩ := hv
    subst e2
    have hg : g' = g := by have := congrArg Addr.block e1; simpa using this.symm
    subst hg
    have hB : Blk w g' cur e := hh
    refine ⟨fun j hj => ⟨?_, hB.frozen _⟩, hB.lt, hb⟩
    have hj : j < l.length := by simpa using hj
    rw [hB.cell, Nat.zero_add]
    have : (cur.toList.take (n * 1))[j]? = (l.map enc)[j]? := by rw [h4]
    rw [List.getElem?_take_of_lt (by simp at h0; omega)] at this
    simp only [List.getElem?_map] at this
    rw [Array.getElem?_toList] at this
    rw [this, List.getElem?_eq_getElem hj]
    simp [getElem!_pos, hj]
/-- An owned row with an element begins its block. -/
theorem own_addr {w : World} {base n m c : Nat} {e : TypeId} {o : Option Addr} {xs : List Value} (h : w.ownsRow base e 1 (.slice o m c) n xs) (hn : 0 < n) : ∃ g, o = some ⟨g, 0, none⟩ ∧ m = n := by
  obtain ⟨h0, h⟩ := h
  rcases h with ⟨_, h⟩ | ⟨g', cap, cur, hv, hb, hh, h1, h2, h3, h4⟩
  · omega
  · simp only [Value.slice.injEq] at hv
    exact ⟨g', hv.1, hv.2.1⟩
/-! ### in order, each once -/
end Go.Vc
end
section
namespace Go.Proofs
open Go.Shelf Go.RowKit Go.Lib BigFrame
variable {P : Program} {ρ : Ren}
set_option maxHeartbeats 4000000 in
set_option maxRecDepth 1000000 in
theorem Any.IndexRune_high (L : Lays.n152 P ρ) (r : Int) (w : World) (h1 : 128 ≤ r) (hne : ¬ r = 65533) (hv : Utf8.valid r = true) :
    Calls P (ρ.f 152) #[.string ⟨#[34, 92]⟩, .int .i32 r] w fun e w' => e = .returned (.int .i64 (-1)) ∧ ∃ n, w' = w.drewN n := by
  obtain ⟨g1, g2, g3⟩ := encode_facts r hv h1
  have hvr : Lib.validRune r = true := by
    have := validRune_eq r
    rw [hv] at this
    unfold Go.validRune at this
    unfold Lib.validRune
    exact this.symm
  have mixed := L.mixed
  have t3 := L.t3; have a3 := L.a3; have z3 := L.z3; have v3 := L.v3
  have t4 := L.t4; have a4 := L.a4; have z4 := L.z4; have v4 := L.v4
  have t5 := L.t5; have a5 := L.a5; have z5 := L.z5; have v5 := L.v5
  have t9 := L.t9; have a9 := L.a9; have z9 := L.z9; have v9 := L.v9
  have t21 := L.t21; have a21 := L.a21; have z21 := L.z21; have v21 := L.v21
  have e119 : ∀ args w, (callFunc (ρ.f 119) args).run P w = .ok (.enter (ρ.f 119) args) w := enters_of L.f119 (by kernel_rfl) rfl
  go_enter L.f152, Body.n152_ntmps ρ
  go_wp2_with (go_at_fn (ρ.f 119); refine (Any.utf8_ValidRune { L with } _ _).mono ?_; rintro e w' ⟨rfl, hw⟩; rw [hw, hvr])
  subst hw
  have hcv : ∀ w, (convert (ρ.t 21) (ρ.t 9) (.int .i32 r)).run P w = .ok (.string (Utf8.encode r)) w := fun w => run_convert_int_string w _ _ _ _ (by rw [t21]; rfl) t9
  generalize Utf8.encode r = rs at *
  clear hv hvr
  by_cases h2 : rs.size = 2
  · have hi : ((rs.size : Int) - 1 < 2) := by omega
    have hi2 : ((rs.size : Int) - 1) = 1 := by omega
    have g4 : 128 ≤ (rs[1]'(by omega)).toNat := by
      have := g3 (by omega)
      simpa only [h2] using this
    clear g3
    go_step3
    go_wp2
    go_rounds 1
    obtain ⟨y, hy⟩ : ∃ y : UInt8, ∀ h, rs[1]'h = y := ⟨rs[1]'(by omega), fun _ => rfl⟩
    rw [hy] at g4
    have hne2 : ((92 : Int) == (y.toNat : Int)) = false := beq_eq_false_iff_ne.2 (by omega)
    have hlt1 : (1 : Int) < (rs.size : Int) := by omega
    have hlt2 : (0 : Int) ≤ 1 ∧ (1 : Int) < (rs.size : Int) := by omega
    clear h2
    go_step3
    refine wp_seq_k fun K1 hK1 => ?_
    refine wp_seq_k fun K2 hK2 => ?_
    go_big_quiet_o (fail)
    refine hK2 _ _ ?_
    clear hK2
    have e92 : (((({ data := #[34, 92] } : ByteArray)[1]'(by decide)).toNat : Int) != (y.toNat : Int)) = true := by
      have e : ((({ data := #[34, 92] } : ByteArray)[1]'(by decide)).toNat : Int) = 92 := rfl
      rw [e, bne_iff_ne]
      omega
    rw [e92]
    go_wp2
    have e137 : ∀ args w, (callFunc (ρ.f 137) args).run P w = .ok (.enter (ρ.f 137) args) w := enters_of L.f137 (by kernel_rfl) rfl
    have hIB := fun (w : World) => Any.strings_IndexByte (P := P) (ρ := ρ) { L with } ByteArray.empty (y.toNat : Int) w
    obtain ⟨w1, hw1⟩ : ∃ w1, w'.drewN nq = w1 := ⟨_, rfl⟩
    rw [hw1]
    go_big_quiet_o (first | (go_at_fn (ρ.f 137); refine Calls.quiet_of_same (hIB _)))
    go_wp2
    rw [Exit.noGoto_ret]
    simp only [Exit.inBlock, Exit.then, Exit.noGoto_ret]
    go_ret
    rw [← hw1, World.drewN_drewN]
    exact ⟨rfl, _, rfl⟩
  · have hn : ¬ ((rs.size : Int) - 1 < 2) := by omega
    clear g3
    go_step3
    go_wp2
    go_rounds 1
    rw [Exit.noGoto_ret]
    go_ret
    exact ⟨rfl, 0, rfl⟩
set_option maxHeartbeats 4000000 in
set_option maxRecDepth 1000000 in
theorem Any.IndexRune_err (L : Lays.n152 P ρ) (w : World) :
    Calls P (ρ.f 152) #[.string ⟨#[34, 92]⟩, .int .i32 65533] w fun e w' => e = .returned (.int .i64 (-1)) ∧ ∃ n, w' = w.iter ⟨#[34, 92]⟩ n := by
  have mixed := L.mixed
  have t3 := L.t3; have a3 := L.a3; have z3 := L.z3; have v3 := L.v3
  have t4 := L.t4; have a4 := L.a4; have z4 := L.z4; have v4 := L.v4
  have t5 := L.t5; have a5 := L.a5; have z5 := L.z5; have v5 := L.v5
  have t9 := L.t9; have a9 := L.a9; have z9 := L.z9; have v9 := L.v9
  have t21 := L.t21; have a21 := L.a21; have z21 := L.z21; have v21 := L.v21
  have hn0 := fun ty => run_next_ascii (P := P) w (⟨#[34, 92]⟩ : ByteArray) 0 ty (by decide) (by decide)
  have hn1 := fun ty => run_next_ascii (P := P) w (⟨#[34, 92]⟩ : ByteArray) 1 ty (by decide) (by decide)
  have hn2 := fun ty => run_next_end (P := P) w (⟨#[34, 92]⟩ : ByteArray) 2 ty (by decide)
  go_enter L.f152, Body.n152_ntmps ρ
  go_wp2
  go_rounds 3
  go_ret
  exact ⟨rfl, _, rfl⟩
set_option maxHeartbeats 4000000 in
set_option maxRecDepth 1000000 in
theorem Any.IndexRune_bad (L : Lays.n152 P ρ) (r : Int) (w : World) (h1 : 128 ≤ r) (hne : ¬ r = 65533) (hv : Utf8.valid r = false) :
    Calls P (ρ.f 152) #[.string ⟨#[34, 92]⟩, .int .i32 r] w fun e w' => e = .returned (.int .i64 (-1)) ∧ w' = w := by
  have hvr : Lib.validRune r = false := by
    have := validRune_eq r
    rw [hv] at this
    unfold Go.validRune at this
    unfold Lib.validRune
    exact this.symm
  have mixed := L.mixed
  have t3 := L.t3; have a3 := L.a3; have z3 := L.z3; have v3 := L.v3
  have t4 := L.t4; have a4 := L.a4; have z4 := L.z4; have v4 := L.v4
  have t5 := L.t5; have a5 := L.a5; have z5 := L.z5; have v5 := L.v5
  have t9 := L.t9; have a9 := L.a9; have z9 := L.z9; have v9 := L.v9
  have t21 := L.t21; have a21 := L.a21; have z21 := L.z21; have v21 := L.v21
  have e119 : ∀ args w, (callFunc (ρ.f 119) args).run P w = .ok (.enter (ρ.f 119) args) w := enters_of L.f119 (by kernel_rfl) rfl
  go_enter L.f152, Body.n152_ntmps ρ
  go_wp2_with (go_at_fn (ρ.f 119); refine (Any.utf8_ValidRune { L with } _ _).mono ?_; rintro e w' ⟨rfl, hw⟩; rw [hw, hvr])
  go_ret
  exact ⟨rfl, rfl⟩
theorem below_drewN_any (w : World) (n : Nat) : Below w.heap.size w (w.drewN n) := ⟨rfl, rfl, rfl, Nat.le_refl _, fun _ _ => rfl⟩
theorem Any.IndexRune_any (L : Lays.n152 P ρ) (r : Int) (w : World) (h0 : 0 ≤ r) (hr : r ≤ 2147483647) :
    Calls P (ρ.f 152) #[.string ⟨#[34, 92]⟩, .int .i32 r] w fun e w' => (∃ n : Int, e = .returned (.int .i64 n)) ∧ Below w.heap.size w w' := by
  by_cases h1 : r < 128
  · exact (Any.strings_IndexRune_ascii L _ r w h0 h1).mono fun e w' ⟨h, hw⟩ => ⟨⟨_, h⟩, hw ▸ Below.refl _ _⟩
  by_cases hne : r = 65533
  · subst hne
    exact (Any.IndexRune_err L w).mono fun e w' ⟨h, n, hw⟩ => ⟨⟨_, h⟩, hw ▸ (Below.refl _ _).alloc (Nat.le_refl _) _⟩
  cases hv : Utf8.valid r with
  | false => exact (Any.IndexRune_bad L r w (by omega) hne hv).mono fun e w' ⟨h, hw⟩ => ⟨⟨_, h⟩, hw ▸ Below.refl _ _⟩
  | true => exact (Any.IndexRune_high L r w (by omega) hne hv).mono fun e w' ⟨h, n, hw⟩ => ⟨⟨_, h⟩, hw ▸ below_drewN_any w n⟩
set_option maxHeartbeats 8000000 in
set_option maxRecDepth 1000000 in
theorem Any.IndexAny_short_any (L : Lays.n153 P ρ) (s : ByteArray) (w : World) (h8 : s.size ≤ 8) :
    Calls P (ρ.f 153) #[.string s, .string ⟨#[34, 92]⟩] w fun e w' => (∃ n : Int, e = .returned (.int .i64 n)) ∧ Below w.heap.size w w' := by
  have h8z : decide ((8 : Int) < (s.size : Int)) = false := decide_eq_false (by omega)
  have t3 := L.t3; have a3 := L.a3; have z3 := L.z3; have v3 := L.v3
  have t4 := L.t4; have a4 := L.a4; have z4 := L.z4; have v4 := L.v4
  have t5 := L.t5; have a5 := L.a5; have z5 := L.z5; have v5 := L.v5
  have t9 := L.t9; have a9 := L.a9; have z9 := L.z9; have v9 := L.v9
  have t21 := L.t21; have a21 := L.a21; have z21 := L.z21; have v21 := L.v21
  have e152 : ∀ args w, (callFunc (ρ.f 152) args).run P w = .ok (.enter (ρ.f 152) args) w := enters_of L.f152 (by kernel_rfl) rfl
  have e226 : ∀ args w, (callFunc (ρ.f 226) args).run P w = .ok (.enter (ρ.f 226) args) w := enters_of L.f226 (by kernel_rfl) rfl
  go_enter L.f153, Body.n153_ntmps ρ
  go_wp2_with (go_at_fn (ρ.f 226); refine (Any.strings_shouldUseASCIISet { L with } _ _).mono ?_; rintro e w' ⟨rfl, hw⟩; rw [hw, h8z])
  go_loopw [9, 10] (fun _ _ wr => ∃ pos : Nat, wr.heap[w.heap.size]? = some (.stringIter s pos) ∧ Below w.heap.size w wr) (fun _ _ wr => s.size - wr.iterPos w.heap.size)
  case atStart => exact ⟨0, World.iter_heap w s 0, (Below.refl _ _).alloc (Nat.le_refl _) _⟩
  case round =>
    obtain ⟨pos, hit, hbw⟩ := hrel
    have hsz : w.heap.size < wr.heap.size := (Array.getElem?_eq_some_iff.1 hit).1
    by_cases hp : pos < s.size
    · have hnx : ∀ ty, (Instr.next (.pointer (some ⟨w.heap.size, 0, none⟩)) true ty).run P wr = _ := fun ty => Lib.run_next_any_at wr w.heap.size s pos ty hit hp
      have hwd : 1 ≤ (Utf8.decode s pos).2 := by
        by_cases ha : (s[pos]'hp).toNat < 128
        · rw [decode_ascii s pos hp ha]; exact Nat.le_refl _
        · exact (decode_high s pos hp (by omega)).2
      have hd1 := decode_le s pos
      have hit2 := Lib.iterAt_heap wr w.heap.size s pos (pos + (Utf8.decode s pos).2) hit
      have hbw2 := Lib.below_iterAt hbw (k := w.heap.size) (by omega) s (pos + (Utf8.decode s pos).2)
      have hsz2 : w.heap.size < (wr.iterAt w.heap.size s (pos + (Utf8.decode s pos).2)).heap.size := by rw [Lib.iterAt_size]; omega
      go_wp2_with (go_at_fn (ρ.f 152); refine (Any.IndexRune_any { L with } _ _ (by omega) (by omega)).mono ?_; rintro e w1 ⟨⟨n, rfl⟩, hb1⟩)
      all_goals have hit3 : w1.heap[w.heap.size]? = some (.stringIter s (pos + (Utf8.decode s pos).2)) := (hb1.block _ hsz2).trans hit2
      all_goals have hbw3 := hbw2.trans (hb1.mono (Nat.le_of_lt hsz2))
      · go_ret
        exact ⟨⟨_, rfl⟩, hbw3⟩
      · refine ⟨⟨_, hit3, hbw3⟩, ?_⟩
        simp only [World.iterPos, hit3, hit]
        omega
    · have hnx : ∀ ty, (Instr.next (.pointer (some ⟨w.heap.size, 0, none⟩)) true ty).run P wr = _ := fun ty => Lib.run_next_end_at wr w.heap.size s pos ty hit hp
      go_wp2
      go_ret
      exact ⟨⟨_, rfl⟩, hbw⟩
set_option maxHeartbeats 1000000 in
theorem Any.ContainsAny_quotes (L : Lays.n150 P ρ) (h116 : (P.info? (ρ.t 116)).map (fun i => (i.zero, i.size)) = some (some (.agg (Array.replicate 256 (.bool false))), 256)) (s : ByteArray) (w : World) (hs : s.size < 4294967281) :
    Calls P (ρ.f 150) #[.string s, .string ⟨#[34, 92]⟩] w fun e w' => (∃ t : Bool, e = .returned (.bool t)) ∧ Below w.heap.size w w' := by
  have c : Calls P (ρ.f 153) #[.string s, .string ⟨#[34, 92]⟩] w fun e w' => (∃ n : Int, e = .returned (.int .i64 n)) ∧ Below w.heap.size w w' := by
    by_cases h8 : s.size ≤ 8
    · exact Any.IndexAny_short_any { L with } s w h8
    · refine (Any.strings_IndexAny_long { L with } (zero_of_info h116).1 (zero_of_info h116).2 s ⟨#[34, 92]⟩ w (by decide) (by omega) hs (by decide) (fun j b hb => ?_)).mono fun e w' ⟨h1, h2⟩ => ⟨⟨_, h1⟩, ?_⟩
      · match j, hb with
        | 0, hb => cases hb; decide
        | 1, hb => cases hb; decide
        | n + 2, hb => simp at hb
      · rw [h2]
        exact ((Below.refl _ _).alloc (Nat.le_refl _) _).alloc (by simp) _
  have t3 := L.t3; have a3 := L.a3; have z3 := L.z3; have v3 := L.v3
  have t4 := L.t4; have a4 := L.a4; have z4 := L.z4; have v4 := L.v4
  have t9 := L.t9; have a9 := L.a9; have z9 := L.z9; have v9 := L.v9
  have e153 : ∀ args w, (callFunc (ρ.f 153) args).run P w = .ok (.enter (ρ.f 153) args) w := enters_of L.f153 (by kernel_rfl) rfl
  go_enter L.f150, Body.n150_ntmps ρ
  go_wp2_with (go_at_fn (ρ.f 153); refine c.mono ?_; rintro e w' ⟨⟨n, rfl⟩, hw⟩)
  go_ret
  exact ⟨⟨_, rfl⟩, hw⟩
end Go.Proofs
end
section
namespace Go.Proofs
open Go.Shelf
def Tryz.lays190_ren : Go.Shelf.Ren := ⟨fun | 190 => 123 | 125 => 144 | 258 => 143 | 128 => 160 | 129 => 161 | 302 => 151 | 303 => 152 | 304 => 153 | 305 => 154 | 306 => 155 | 307 => 156 | 308 => 157 | 309 => 158 | 310 => 159 | 333 => 169 | 329 => 170 | 330 => 171 | 334 => 172 | 335 => 173 | 336 => 149 | 344 => 178 | n => n, fun | 31 => 22 | 9 => 9 | 3 => 3 | 46 => 150 | 0 => 0 | 51 => 161 | 53 => 163 | 4 => 4 | 183 => 155 | 182 => 154 | 131 => 62 | 5 => 5 | 218 => 171 | 222 => 175 | 228 => 180 | 229 => 181 | n => n, fun | n => n⟩
theorem Tryz.lays190 : Go.Proofs.Lays.n190 Tryz.prog Tryz.lays190_ren := {
  mixed := by kernel_rfl
  f125 := Tryz.func144.trans (congrArg some (by kernel_rfl))
  f128 := Tryz.func160.trans (congrArg some (by kernel_rfl))
  f129 := Tryz.func161.trans (congrArg some (by kernel_rfl))
  f190 := Tryz.func123.trans (congrArg some (by kernel_rfl))
  f258 := Tryz.func143.trans (congrArg some (by kernel_rfl))
  f302 := Tryz.func151.trans (congrArg some (by kernel_rfl))
  f303 := Tryz.func152.trans (congrArg some (by kernel_rfl))
  f304 := Tryz.func153.trans (congrArg some (by kernel_rfl))
  f305 := Tryz.func154.trans (congrArg some (by kernel_rfl))
  f306 := Tryz.func155.trans (congrArg some (by kernel_rfl))
  f307 := Tryz.func156.trans (congrArg some (by kernel_rfl))
  f308 := Tryz.func157.trans (congrArg some (by kernel_rfl))
  f309 := Tryz.func158.trans (congrArg some (by kernel_rfl))
  f310 := Tryz.func159.trans (congrArg some (by kernel_rfl))
  f329 := Tryz.func170.trans (congrArg some (by kernel_rfl))
  f330 := Tryz.func171.trans (congrArg some (by kernel_rfl))
  f333 := Tryz.func169.trans (congrArg some (by kernel_rfl))
  f334 := Tryz.func172.trans (congrArg some (by kernel_rfl))
  f335 := Tryz.func173.trans (congrArg some (by kernel_rfl))
  f336 := Tryz.func149.trans (congrArg some (by kernel_rfl))
  f344 := Tryz.func178.trans (congrArg some (by kernel_rfl))
  t0 := Tryz.underlying0
  a0 := Tryz.isAgg0
  z0 := Tryz.sizeOf0
  v0 := Tryz.zeroValue0
  t3 := Tryz.underlying3
  a3 := Tryz.isAgg3
  z3 := Tryz.sizeOf3
  v3 := Tryz.zeroValue3
  t4 := Tryz.underlying4
  a4 := Tryz.isAgg4
  z4 := Tryz.sizeOf4
  v4 := Tryz.zeroValue4
  t5 := Tryz.underlying5
  a5 := Tryz.isAgg5
  z5 := Tryz.sizeOf5
  v5 := Tryz.zeroValue5
  t9 := Tryz.underlying9
  a9 := Tryz.isAgg9
  z9 := Tryz.sizeOf9
  v9 := Tryz.zeroValue9
  t31 := Tryz.underlying22
  a31 := Tryz.isAgg22
  z31 := Tryz.sizeOf22
  v31 := Tryz.zeroValue22
  t46 := Tryz.underlying150
  a46 := Tryz.isAgg150
  z46 := Tryz.sizeOf150
  v46 := Tryz.zeroValue150
  t51 := Tryz.underlying161
  a51 := Tryz.isAgg161
  z51 := Tryz.sizeOf161
  v51 := Tryz.zeroValue161
  t53 := Tryz.underlying163
  a53 := Tryz.isAgg163
  z53 := Tryz.sizeOf163
  v53 := Tryz.zeroValue163
  t131 := Tryz.underlying62
  a131 := Tryz.isAgg62
  z131 := Tryz.sizeOf62
  v131 := Tryz.zeroValue62
  t182 := Tryz.underlying154
  a182 := Tryz.isAgg154
  z182 := Tryz.sizeOf154
  v182 := Tryz.zeroValue154
  t183 := Tryz.underlying155
  a183 := Tryz.isAgg155
  z183 := Tryz.sizeOf155
  v183 := Tryz.zeroValue155
  t218 := Tryz.underlying171
  a218 := Tryz.isAgg171
  z218 := Tryz.sizeOf171
  v218 := Tryz.zeroValue171
  t222 := Tryz.underlying175
  a222 := Tryz.isAgg175
  z222 := Tryz.sizeOf175
  v222 := Tryz.zeroValue175
  t228 := Tryz.underlying180
  a228 := Tryz.isAgg180
  z228 := Tryz.sizeOf180
  v228 := Tryz.zeroValue180
  t229 := Tryz.underlying181
  a229 := Tryz.isAgg181
  z229 := Tryz.sizeOf181
  v229 := Tryz.zeroValue181 }
def Tryz.laysGw17_ren : Go.Shelf.Ren := ⟨fun | 17 => 127 | 15 => 146 | 20 => 166 | n => n, fun | 9 => 9 | 23 => 139 | 4 => 4 | 3 => 3 | 0 => 0 | 21 => 21 | n => n, fun | n => n⟩
theorem Tryz.laysGw17 : Go.Proofs.LaysGw.n17 Tryz.prog Tryz.laysGw17_ren := {
  mixed := by kernel_rfl
  f15 := Tryz.func146.trans (congrArg some (by kernel_rfl))
  f17 := Tryz.func127.trans (congrArg some (by kernel_rfl))
  f20 := Tryz.func166.trans (congrArg some (by kernel_rfl))
  t0 := Tryz.underlying0
  a0 := Tryz.isAgg0
  z0 := Tryz.sizeOf0
  v0 := Tryz.zeroValue0
  i0 := by kernel_rfl
  t3 := Tryz.underlying3
  a3 := Tryz.isAgg3
  z3 := Tryz.sizeOf3
  v3 := Tryz.zeroValue3
  i3 := by kernel_rfl
  t4 := Tryz.underlying4
  a4 := Tryz.isAgg4
  z4 := Tryz.sizeOf4
  v4 := Tryz.zeroValue4
  i4 := by kernel_rfl
  t9 := Tryz.underlying9
  a9 := Tryz.isAgg9
  z9 := Tryz.sizeOf9
  v9 := Tryz.zeroValue9
  i9 := by kernel_rfl
  t21 := Tryz.underlying21
  a21 := Tryz.isAgg21
  z21 := Tryz.sizeOf21
  v21 := Tryz.zeroValue21
  i21 := by kernel_rfl
  t23 := Tryz.underlying139
  a23 := Tryz.isAgg139
  z23 := Tryz.sizeOf139
  v23 := Tryz.zeroValue139
  i23 := by kernel_rfl }
def Tryz.lays150_ren : Go.Shelf.Ren := ⟨fun | 150 => 126 | 153 => 145 | 152 => 162 | 226 => 163 | 227 => 164 | 228 => 165 | 137 => 174 | 119 => 175 | 224 => 176 | 225 => 177 | 217 => 179 | 266 => 180 | n => n, fun | 9 => 9 | 4 => 4 | 3 => 3 | 5 => 5 | 21 => 21 | 117 => 167 | 116 => 166 | 0 => 0 | 46 => 150 | 124 => 179 | n => n, fun | n => n⟩
theorem Tryz.lays150 : Go.Proofs.Lays.n150 Tryz.prog Tryz.lays150_ren := {
  mixed := by kernel_rfl
  f119 := Tryz.func175.trans (congrArg some (by kernel_rfl))
  f137 := Tryz.func174.trans (congrArg some (by kernel_rfl))
  f150 := Tryz.func126.trans (congrArg some (by kernel_rfl))
  f152 := Tryz.func162.trans (congrArg some (by kernel_rfl))
  f153 := Tryz.func145.trans (congrArg some (by kernel_rfl))
  f217 := Tryz.func179.trans (congrArg some (by kernel_rfl))
  f224 := Tryz.func176.trans (congrArg some (by kernel_rfl))
  f225 := Tryz.func177.trans (congrArg some (by kernel_rfl))
  f226 := Tryz.func163.trans (congrArg some (by kernel_rfl))
  f227 := Tryz.func164.trans (congrArg some (by kernel_rfl))
  f228 := Tryz.func165.trans (congrArg some (by kernel_rfl))
  f266 := Tryz.func180.trans (congrArg some (by kernel_rfl))
  t0 := Tryz.underlying0
  a0 := Tryz.isAgg0
  z0 := Tryz.sizeOf0
  v0 := Tryz.zeroValue0
  t3 := Tryz.underlying3
  a3 := Tryz.isAgg3
  z3 := Tryz.sizeOf3
  v3 := Tryz.zeroValue3
  t4 := Tryz.underlying4
  a4 := Tryz.isAgg4
  z4 := Tryz.sizeOf4
  v4 := Tryz.zeroValue4
  t5 := Tryz.underlying5
  a5 := Tryz.isAgg5
  z5 := Tryz.sizeOf5
  v5 := Tryz.zeroValue5
  t9 := Tryz.underlying9
  a9 := Tryz.isAgg9
  z9 := Tryz.sizeOf9
  v9 := Tryz.zeroValue9
  t21 := Tryz.underlying21
  a21 := Tryz.isAgg21
  z21 := Tryz.sizeOf21
  v21 := Tryz.zeroValue21
  t46 := Tryz.underlying150
  a46 := Tryz.isAgg150
  z46 := Tryz.sizeOf150
  v46 := Tryz.zeroValue150
  t116 := Tryz.underlying166
  a116 := Tryz.isAgg166
  z116 := Tryz.sizeOf166
  t117 := Tryz.underlying167
  a117 := Tryz.isAgg167
  z117 := Tryz.sizeOf167
  v117 := Tryz.zeroValue167
  t124 := Tryz.underlying179
  a124 := Tryz.isAgg179
  z124 := Tryz.sizeOf179
  v124 := Tryz.zeroValue179 }
def Tryz.lays194_ren : Go.Shelf.Ren := ⟨fun | 194 => 89 | n => n, fun | 31 => 22 | 9 => 9 | 3 => 3 | 4 => 4 | 0 => 0 | n => n, fun | n => n⟩
theorem Tryz.lays194 : Go.Proofs.Lays.n194 Tryz.prog Tryz.lays194_ren := {
  mixed := by kernel_rfl
  f194 := Tryz.func89.trans (congrArg some (by kernel_rfl))
  t0 := Tryz.underlying0
  a0 := Tryz.isAgg0
  z0 := Tryz.sizeOf0
  v0 := Tryz.zeroValue0
  t3 := Tryz.underlying3
  a3 := Tryz.isAgg3
  z3 := Tryz.sizeOf3
  v3 := Tryz.zeroValue3
  t4 := Tryz.underlying4
  a4 := Tryz.isAgg4
  z4 := Tryz.sizeOf4
  v4 := Tryz.zeroValue4
  t9 := Tryz.underlying9
  a9 := Tryz.isAgg9
  z9 := Tryz.sizeOf9
  v9 := Tryz.zeroValue9
  t31 := Tryz.underlying22
  a31 := Tryz.isAgg22
  z31 := Tryz.sizeOf22
  v31 := Tryz.zeroValue22 }
open Go.Sort Go.RowKit in
theorem Tryz.slices_Sort_string (blk off cap : Nat) (ss : List (List UInt8)) (w : World) (hH : Holds encStr w blk off ss.toArray) (hblk : blk < w.heap.size) (hsz : ss.length < 4611686018427387904) :
    Calls Tryz.prog 123 #[.slice (some ⟨blk, off, none⟩) ss.length cap] w fun e w' =>
      e = .returned (.tuple #[]) ∧ ∃ n os, w' = grow (putRow encStr (Sort.ahead w n) blk off (ss.mergeSort fun x y => decide (x ≤ y)).toArray) os := Any.slices_Sort_string Tryz.lays190 blk off cap ss w hH hblk hsz
open Go.RowKit Go.Lib in
theorem Tryz.strings_ContainsAny_laid (s chars : ByteArray) (w : World) (hs : s.size < 4294967281) (hcs : chars.size < 4294967281) (has : ∀ (j : Nat) b, s.data.toList[j]? = some b → b.toNat < 128) (hac : ∀ (j : Nat) b, chars.data.toList[j]? = some b → b.toNat < 128) :
    Calls Tryz.prog 126 #[.string s, .string chars] w fun e w' => e = .returned (.bool (Lib.containsAny s.data.toList chars.data.toList)) ∧ Below w.heap.size w w' := Any.strings_ContainsAny_laid Tryz.lays150 (by kernel_rfl) s chars w hs hcs has hac
open Go.RowKit Go.Lib in
theorem Tryz.strings_ContainsFunc_grows (g : Nat) (lb : Array Value) (eg : ∀ args w, (callFunc g args).run Tryz.prog w = .ok (.enter g args) w) (p : Nat → Bool) (s : ByteArray) (w : World) (hp : PredGrows Tryz.prog g lb p w) :
    Calls Tryz.prog 127 #[.string s, .func (.func g) #[] lb] w fun e w' => e = .returned (.bool (decide (0 ≤ Lib.idxFunc p true s))) ∧ Below w.heap.size w w' := Any.strings_ContainsFunc_grows Tryz.laysGw17 g lb eg p s w hp
open Go.RowKit Go.Lib Go.Sort in
theorem Tryz.slices_Compact_string (blk off cap : Nat) (zs : List (List UInt8)) (w : World) (hH : Holds encStr w blk off zs.toArray) (hsz : zs.length ≤ 9223372036854775807) (hcap : zs.length ≤ cap) :
    Calls Tryz.prog 89 #[.slice (some ⟨blk, off, none⟩) zs.length cap] w fun e w' => e = .returned (.slice (some ⟨blk, off, none⟩) (Lib.compact zs).length cap) ∧ ∃ q, w' = putRow encStr (Sort.ahead w q) blk off (Lib.compact zs ++ List.replicate (zs.length - (Lib.compact zs).length) []).toArray := Any.slices_Compact_string Tryz.lays194 blk off cap zs w hH hsz hcap
open Go.RowKit Go.Lib Go.Sort in
theorem Tryz.slices_Compact_string_empty (a : Option Addr) (cap : Nat) (w : World) :
    Calls Tryz.prog 89 #[.slice a 0 cap] w fun e w' => e = .returned (.slice a 0 cap) ∧ w' = w := Any.slices_Compact_string_empty Tryz.lays194 a cap w
open Go.RowKit Go.Sort in
theorem Tryz.slices_Sort_string_none (p : Option Addr) (cap : Nat) (w : World) :
    Calls Tryz.prog 123 #[.slice p 0 cap] w fun e w' => e = .returned (.tuple #[]) ∧ w' = w := Any.slices_Sort_string_none Tryz.lays190 p cap w
end Go.Proofs
end
section
set_option linter.unusedSimpArgs false
namespace Go.Vc
/-- A contract of mine as a contract in the plain sense. -/
theorem calls_of_fn {P : Program} {f : FuncId} {args : Array Value} {w : World} {R : Value → World → Prop} {Q : Ending → World → Prop} (hb : HasBody P f) (h : FnC P f args w R) (hR : ∀ v w', R v w' → Q (.returned v) w') : Calls P f args w Q := by
  unfold FnC at h
  rw [hb args w] at h
  have h : Ret P f args w R := h
  refine Calls.mono h ?_
  rintro e w' ⟨v, rfl, hr⟩
  exact hR v w' hr
end Go.Vc
namespace Go.Proofs.YtnofalhkapmcnaaGreat
open Go.Vc Go.Key
set_option maxRecDepth 100000
theorem hbCF : HasBody Tryz.prog 127 := hasBody_of Tryz.func127 (by kernel_rfl)
theorem hbCA : HasBody Tryz.prog 126 := hasBody_of Tryz.func126 (by kernel_rfl)
def outR (x : Nat) : Bool := decide (x < 32) || decide (126 < x)
theorem value1_c (x : Nat) (w : World) : FnC Tryz.prog 128 #[.int .i32 (x : Int)] w fun r w' => r = .bool (outR x) ∧ w' = w := by
  refine enter128 _ ?_
  unfold B128
  unfold outR
  by_cases h1 : x < 32
  · rw [decide_eq_true h1]
    repeat' (first | (simp (disch := omega) only [push_cast, ↓reduceIte, zA, zG, zB, zH, zI, zC, zJ, zK, zL, zD, zE, zF, zM, zN, zO, zP, zQ, reduceCtorEq, not_true_eq_false, not_false_eq_true]) | (first | refine iE ?_ ?_ | refine iD ?_ ?_ | refine iQ ?_ ?_ | refine iV ?_ ?_) <;> intro _ | refine And.intro (by omega) ?_ | refine drawn_q ?_ | fail)
    all_goals simp
  · rw [decide_eq_false h1]
    repeat' (first | (simp (disch := omega) only [push_cast, ↓reduceIte, zA, zG, zB, zH, zI, zC, zJ, zK, zL, zD, zE, zF, zM, zN, zO, zP, zQ, reduceCtorEq, not_true_eq_false, not_false_eq_true]) | (first | refine iE ?_ ?_ | refine iD ?_ ?_ | refine iQ ?_ ?_ | refine iV ?_ ?_) <;> intro _ | refine And.intro (by omega) ?_ | refine drawn_q ?_ | fail)
    first | exact ⟨congrArg Value.bool (by first | (rw [Bool.false_or]; exact decide_eq_decide.2 (by omega)) | exact decide_eq_decide.2 (by omega)), rfl⟩ | (exact congrArg Value.bool (by first | (rw [Bool.false_or]; exact decide_eq_decide.2 (by omega)) | exact decide_eq_decide.2 (by omega)))
/-- All bytes are of seven bits. -/
def Asc (s : ByteArray) : Prop := ∀ i (h : i < s.size), s[i].toNat < 128
instance (s : ByteArray) : Decidable (Asc s) := inferInstanceAs (Decidable (∀ i (h : i < s.size), s[i].toNat < 128))
theorem idx_out {s : ByteArray} : (decide (0 ≤ Go.Lib.idxFunc outR true s) = false) ↔ ∀ i (h : i < s.size), 32 ≤ s[i].toNat ∧ s[i].toNat ≤ 126 := by
  have key : ∀ (f pos : Nat), s.size - pos ≤ f → (¬ 0 ≤ Go.Lib.idxFuncFrom outR true s f pos ↔ ∀ i (h : i < s.size), pos ≤ i → 32 ≤ s[i].toNat ∧ s[i].toNat ≤ 126) := by
    intro f
    induction f with
    | zero =>
      intro pos hp
      unfold Go.Lib.idxFuncFrom
      exact ⟨fun _ i hi h => by omega, fun _ => by omega⟩
    | succ f ih =>
      intro pos hp
      unfold Go.Lib.idxFuncFrom
      by_cases hlt : pos < s.size
      · rw [if_pos hlt]
        by_cases hb : s[pos].toNat < 128
        · rw [decode_ascii s pos hlt hb]
          dsimp only
          by_cases ho : outR s[pos].toNat = true
          · rw [if_pos ho]
            refine ⟨fun h => absurd (by omega) h, fun h => ?_⟩
            have := h pos hlt (Nat.le_refl _)
            simp [outR] at ho
            omega
          · rw [if_neg ho, ih (pos + 1) (by omega)]
            refine ⟨fun h i hi hpi => ?_, fun h i hi hpi => h i hi (by omega)⟩
            by_cases he : i = pos
            · subst he
              simp [outR] at ho
              omega
            · exact h i hi (by omega)
        · have hd := (decode_high s pos hlt (by omega)).1
          have ho : outR (Utf8.decode s pos).1 = true := by simp [outR]; omega
          rw [if_pos ho]
          refine ⟨fun h => absurd (by omega) h, fun h => ?_⟩
          have := h pos hlt (Nat.le_refl _)
          omega
      · rw [if_neg hlt]
        exact ⟨fun _ i hi h => by omega, fun _ => by omega⟩
  unfold Go.Lib.idxFunc
  rw [decide_eq_false_iff_not, key s.size 0 (by omega)]
  exact ⟨fun h i hi => h i hi (Nat.zero_le _), fun h i hi _ => h i hi⟩
abbrev quotes : ByteArray := ⟨#[34, 92]⟩
/-- What is told of the bytes that bar a text. -/
def CanyAt (s : ByteArray) : Prop := ∀ w, FnC Tryz.prog 126 #[.string s, .string quotes] w fun r w' => (∃ t, r = .bool t ∧ (Asc s → (t = true ↔ ∃ i, ∃ h : i < s.size, s[i].toNat = 34 ∨ s[i].toNat = 92))) ∧ Later w w'
theorem any_is (chars : List UInt8) : ∀ l : List UInt8, Go.Lib.containsAny l chars = true ↔ ∃ b ∈ l, chars.contains b = true := by
  intro l
  unfold Go.Lib.containsAny
  rw [decide_eq_true_eq]
  induction l with
  | nil => simp [Go.Lib.indexAny]
  | cons b l ih =>
    unfold Go.Lib.indexAny
    by_cases hb : chars.contains b = true
    · rw [if_pos hb]
      exact ⟨fun _ => ⟨b, by simp, hb⟩, fun _ => by omega⟩
    · have hb' : chars.contains b = false := by simpa using hb
      rw [if_neg hb]
      have hge := Go.Lib.indexAny_ge chars l
      by_cases he : (Go.Lib.indexAny l chars == -1) = true
      · rw [if_pos he]
        have he' : Go.Lib.indexAny l chars = -1 := by simpa using he
        rw [he'] at ih
        constructor
        · intro h; omega
        · rintro ⟨x, hx, hc⟩
          rcases List.mem_cons.1 hx with rfl | hx
          · rw [hb'] at hc; cases hc
          · exact ih.2 ⟨x, hx, hc⟩
      · rw [if_neg he]
        have he' : Go.Lib.indexAny l chars ≠ -1 := by simpa using he
        constructor
        · intro h
          obtain ⟨x, hx, hc⟩ := ih.1 (by omega)
          exact ⟨x, List.mem_cons_of_mem _ hx, hc⟩
        · rintro _; omega
theorem cany_asc (s : ByteArray) (ha : Asc s) (hs : s.size ≤ 1000) : CanyAt s := by
  intro w
  refine FnC.of_calls hbCA (Tryz.strings_ContainsAny_laid s quotes w (by omega) (by decide) (fun j b hb => ?_) (fun j b hb => ?_)) ?_
  · obtain ⟨hj, rfl⟩ := List.getElem?_eq_some_iff.1 hb
    exact ha j (by simpa using hj)
  · match j, hb with
    | 0, hb => cases hb; decide
    | 1, hb => cases hb; decide
    | n + 2, hb => simp at hb
  · rintro e w' ⟨rfl, hl⟩
    refine ⟨_, rfl, ⟨_, rfl, fun _ => ?_⟩, hl⟩
    rw [any_is]
    constructor
    · rintro ⟨b, hb, hc⟩
      obtain ⟨i, hi, rfl⟩ := List.getElem_of_mem hb
      refine ⟨i, by simpa using hi, ?_⟩
      simp at hc
      rcases hc with hc | hc
      · left; exact congrArg UInt8.toNat hc
      · right; exact congrArg UInt8.toNat hc
    · rintro ⟨i, hi, hc⟩
      refine ⟨s[i], ?_, ?_⟩
      · have : s[i] = s.data.toList[i]'(by simpa using hi) := rfl
        rw [this]
        exact List.getElem_mem _
      · simp
        rcases hc with hc | hc
        · left; exact UInt8.toNat_inj.1 hc
        · right; exact UInt8.toNat_inj.1 hc
theorem value_c (s : ByteArray) (w : World) (hC : s.size ≤ 24 → CanyAt s) : FnC Tryz.prog 92 #[.string s] w fun r w' => r = .bool (decide (VlOk s)) ∧ Later w w' := by
  refine enter92 _ ?_
  unfold B92
  by_cases h24 : s.size ≤ 24
  case neg =>
    have hno : decide (VlOk s) = false := decide_eq_false fun h => h24 h.2
    repeat' (first | (simp (disch := omega) only [push_cast, ↓reduceIte, zA, zG, zB, zH, zI, zC, zJ, zK, zL, zD, zE, zF, zM, zN, zO, zP, zQ, reduceCtorEq, not_true_eq_false, not_false_eq_true]) | (first | refine iE ?_ ?_ | refine iD ?_ ?_ | refine iQ ?_ ?_ | refine iV ?_ ?_) <;> intro _ | refine And.intro (by omega) ?_ | refine drawn_q ?_ | fail)
    first | exact ⟨by rw [hno], Later.refl _⟩ | exact Later.refl _
  repeat' (first | (simp (disch := omega) only [push_cast, ↓reduceIte, zA, zG, zB, zH, zI, zC, zJ, zK, zL, zD, zE, zF, zM, zN, zO, zP, zQ, reduceCtorEq, not_true_eq_false, not_false_eq_true]) | (first | refine iE ?_ ?_ | refine iD ?_ ?_ | refine iQ ?_ ?_ | refine iV ?_ ?_) <;> intro _ | refine And.intro (by omega) ?_ | refine drawn_q ?_ | fail)
  refine (hC h24 w).mono ?_
  rintro _ w1 ⟨⟨t, rfl, ht⟩, l1⟩
  have hidx : FnC Tryz.prog 127 #[.string s, .func (.func 128) #[] #[]] w1 fun r w' => r = .bool (decide (0 ≤ Go.Lib.idxFunc outR true s)) ∧ Later w1 w' := by
    refine FnC.of_calls hbCF (Tryz.strings_ContainsFunc_grows 128 #[] hb128 outR s w1 ?_) ?_
    · intro W x hx hW
      refine calls_of_fn hb128 (value1_c x W) ?_
      rintro v w' ⟨rfl, rfl⟩
      exact ⟨rfl, Later.refl _⟩
    · rintro e w' ⟨rfl, hl⟩
      exact ⟨_, rfl, rfl, hl⟩
  have asc_of : decide (0 ≤ Go.Lib.idxFunc outR true s) = false → Asc s := fun h i hi => by have := idx_out.1 h i hi; omega
  cases t with
  | true =>
    have hno : decide (VlOk s) = false := decide_eq_false fun h => by
      have ha : Asc s := fun i hi => by
        have := h.1 i hi
        simp [vlB] at this
        omega
      obtain ⟨i, hi, hc⟩ := (ht ha).1 rfl
      have := h.1 i hi
      simp [vlB] at this
      omega
    repeat' (first | (simp (disch := omega) only [push_cast, ↓reduceIte, zA, zG, zB, zH, zI, zC, zJ, zK, zL, zD, zE, zF, zM, zN, zO, zP, zQ, reduceCtorEq, not_true_eq_false, not_false_eq_true]) | (first | refine iE ?_ ?_ | refine iD ?_ ?_ | refine iQ ?_ ?_ | refine iV ?_ ?_) <;> intro _ | refine And.intro (by omega) ?_ | refine drawn_q ?_ | fail)
    first | exact ⟨by rw [hno], l1⟩ | exact l1
  | false =>
    repeat' (first | (simp (disch := omega) only [push_cast, ↓reduceIte, zA, zG, zB, zH, zI, zC, zJ, zK, zL, zD, zE, zF, zM, zN, zO, zP, zQ, reduceCtorEq, not_true_eq_false, not_false_eq_true]) | (first | refine iE ?_ ?_ | refine iD ?_ ?_ | refine iQ ?_ ?_ | refine iV ?_ ?_) <;> intro _ | refine And.intro (by omega) ?_ | refine drawn_q ?_ | fail)
    refine hidx.mono ?_
    rintro _ w2 ⟨rfl, l2⟩
    cases hi : decide (0 ≤ Go.Lib.idxFunc outR true s) with
    | true =>
      have hno : decide (VlOk s) = false := decide_eq_false fun h => by
        have : decide (0 ≤ Go.Lib.idxFunc outR true s) = false := idx_out.2 fun i hi => by
          have := h.1 i hi
          simp [vlB] at this
          omega
        rw [hi] at this; cases this
      repeat' (first | (simp (disch := omega) only [push_cast, ↓reduceIte, zA, zG, zB, zH, zI, zC, zJ, zK, zL, zD, zE, zF, zM, zN, zO, zP, zQ, reduceCtorEq, not_true_eq_false, not_false_eq_true]) | (first | refine iE ?_ ?_ | refine iD ?_ ?_ | refine iQ ?_ ?_ | refine iV ?_ ?_) <;> intro _ | refine And.intro (by omega) ?_ | refine drawn_q ?_ | fail)
      first | exact ⟨by rw [hno], (l1.trans l2)⟩ | exact (l1.trans l2)
    | false =>
      have hasc := asc_of hi
      have hyes : decide (VlOk s) = true := decide_eq_true ⟨fun i hii => by
        have h1 := idx_out.1 hi i hii
        have h2 : ¬ (s[i].toNat = 34 ∨ s[i].toNat = 92) := fun hc => by
          have := (ht hasc).2 ⟨i, hii, hc⟩
          cases this
        simp [vlB]
        omega, h24⟩
      repeat' (first | (simp (disch := omega) only [push_cast, ↓reduceIte, zA, zG, zB, zH, zI, zC, zJ, zK, zL, zD, zE, zF, zM, zN, zO, zP, zQ, reduceCtorEq, not_true_eq_false, not_false_eq_true]) | (first | refine iE ?_ ?_ | refine iD ?_ ?_ | refine iQ ?_ ?_ | refine iV ?_ ?_) <;> intro _ | refine And.intro (by omega) ?_ | refine drawn_q ?_ | fail)
      first | exact ⟨by rw [hyes], (l1.trans l2)⟩ | exact (l1.trans l2)
theorem cany_all (s : ByteArray) (hs : s.size ≤ 1000) : CanyAt s := by
  by_cases ha : Asc s
  · exact cany_asc s ha hs
  intro w
  refine FnC.of_calls hbCA (Go.Proofs.Any.ContainsAny_quotes Tryz.lays150 (by kernel_rfl) s w (by omega)) ?_
  rintro e w' ⟨⟨t, rfl⟩, hl⟩
  exact ⟨_, rfl, ⟨t, rfl, fun h => absurd h ha⟩, hl⟩
theorem tvalue_c (s : ByteArray) (w : World) : FnC Tryz.prog 92 #[.string s] w fun r w' => r = .bool (decide (VlOk s)) ∧ Later w w' := value_c s w fun h => cany_all s (by omega)
end Go.Proofs.YtnofalhkapmcnaaGreat
end
section
set_option linter.unusedSimpArgs false
namespace Go.Proofs.YtnofalhkapmcnaaGreat
open Go.Vc Go.Key
set_option maxRecDepth 100000
theorem values_c2 (o : Option Addr) (n c : Nat) (w : World) : FnC Tryz.prog 88 #[.slice o n c] w fun r w' => r = .func (.func 124) #[] #[pt w.heap.size] ∧ Later w w' ∧ Blk w' w.heap.size #[.slice o n c] 22 := by
  refine enter88 _ ?_
  unfold B88 pt
  have ec : (Value.slice o n c).cells = #[.slice o n c] := rfl
  repeat' (first | (simp (disch := omega) only [push_cast, ↓reduceIte, zA, zG, zB, zH, zI, zC, zJ, zK, zL, zD, zE, zF, zM, zN, zO, zP, zQ, reduceCtorEq, not_true_eq_false, not_false_eq_true, ec]) | (first | refine iE ?_ ?_ | refine iD ?_ ?_ | refine iQ ?_ ?_ | refine iV ?_ ?_) <;> intro _ | refine And.intro (by omega) ?_ | refine drawn_q ?_ | fail)
  have l1 := later_alloc w (.cells #[.slice o n c] 22)
  have B1 := Blk.new w #[.slice o n c] 22
  first | exact ⟨rfl, l1, B1⟩ | exact ⟨l1, B1⟩ | exact B1
theorem vals1_c (L k1 : Nat) (v : Value) (l : List ByteArray) (I : Nat → World → Prop) (w : World) (h0 : I 0 w) (hl : l.length ≤ 1000000)
    (hI : ∀ i w1, I i w1 → StS w1 v l ∧ Blk w1 k1 #[v] 22)
    (hy : ∀ i (hi : i < l.length) w1, I i w1 → YldC Tryz.prog L #[.string l[i]] w1 fun b w2 => b = .bool true ∧ I (i + 1) w2) :
    FnC Tryz.prog 124 #[.func (.yield L) #[] #[], pt k1] w fun _ w' => I l.length w' := by
  obtain ⟨r0, b0⟩ := hI 0 w h0
  obtain ⟨o, c, rfl, g1, g2, hm, g3⟩ := r0.openM
  refine enter124 _ _ ?_
  unfold B124 pt
  have f0 : w.cell? ⟨k1, 0, none⟩ = some (.slice o l.length c) := b0.cell 0
  repeat' (first | (simp (disch := omega) only [push_cast, ↓reduceIte, zA, zG, zB, zH, zI, zC, zJ, zK, zL, zD, zE, zF, zM, zN, zO, zP, zQ, reduceCtorEq, not_true_eq_false, not_false_eq_true, f0]) | (first | refine iE ?_ ?_ | refine iD ?_ ?_ | refine iQ ?_ ?_ | refine iV ?_ ?_) <;> intro _ | refine And.intro (by omega) ?_ | refine drawn_q ?_ | fail)
  refine vc_loop W124_0 (fun i : Nat => [(7, .int .i64 (i : Int))]) (fun i w' => i ≤ l.length ∧ I i w') (fun i => l.length - i) 0 (by decide) ?_ ?_ ?_
  · simp (disch := omega) only [push_cast, ↓reduceIte, zA, zG, zB, zH, zI, zC, zJ, zK, zL, zD, zE, zF, zM, zN, zO, zP, zQ, reduceCtorEq, not_true_eq_false, not_false_eq_true]
    try rfl
  · exact ⟨by omega, h0⟩
  rintro i uu w1 ⟨hi, h1⟩
  by_cases hlt : i < l.length
  · have hd : decide ((i : Int) < (l.length : Int)) = true := decide_eq_true (by omega)
    obtain ⟨r1, b1⟩ := hI i w1 h1
    cases o with
    | none => have := (g3 rfl).1; rw [this] at hlt; simp at hlt
    | some la =>
    have f1 := StS.atS r1 hlt
    have hyi := hy i hlt w1 h1
    generalize l[i] = e at *
    repeat' (first | (simp (disch := omega) only [push_cast, ↓reduceIte, zA, zG, zB, zH, zI, zC, zJ, zK, zL, zD, zE, zF, zM, zN, zO, zP, zQ, reduceCtorEq, not_true_eq_false, not_false_eq_true, f1, hd]) | (first | refine iE ?_ ?_ | refine iD ?_ ?_ | refine iQ ?_ ?_ | refine iV ?_ ?_) <;> intro _ | refine And.intro (by omega) ?_ | refine drawn_q ?_ | fail)
    refine vcUp_mono hyi ?_
    rintro _ w3 ⟨rfl, h3⟩
    repeat' (first | (simp (disch := omega) only [push_cast, ↓reduceIte, zA, zG, zB, zH, zI, zC, zJ, zK, zL, zD, zE, zF, zM, zN, zO, zP, zQ, reduceCtorEq, not_true_eq_false, not_false_eq_true]) | (first | refine iE ?_ ?_ | refine iD ?_ ?_ | refine iQ ?_ ?_ | refine iV ?_ ?_) <;> intro _ | refine And.intro (by omega) ?_ | refine drawn_q ?_ | fail)
    exact ⟨rfl, i + 1, by simp (disch := omega) only [push_cast, ↓reduceIte, zA, zG, zB, zH, zI, zC, zJ, zK, zL, zD, zE, zF, zM, zN, zO, zP, zQ, reduceCtorEq, not_true_eq_false, not_false_eq_true], ⟨by omega, h3⟩, by dsimp only; omega⟩
  · have hd : decide ((i : Int) < (l.length : Int)) = false := decide_eq_false (by omega)
    have e : i = l.length := by omega
    subst e
    repeat' (first | (simp (disch := omega) only [push_cast, ↓reduceIte, zA, zG, zB, zH, zI, zC, zJ, zK, zL, zD, zE, zF, zM, zN, zO, zP, zQ, reduceCtorEq, not_true_eq_false, not_false_eq_true, hd]) | (first | refine iE ?_ ?_ | refine iD ?_ ?_ | refine iQ ?_ ?_ | refine iV ?_ ?_) <;> intro _ | refine And.intro (by omega) ?_ | refine drawn_q ?_ | fail)
    exact h1
/-- What holds between the rounds. -/
structure LpT (w w' : World) (L : Nat) (o : Obj) (ks : List ByteArray) : Prop where
  rec_ : w'.heap[L]? = some o
  def_ : w'.heap[w.heap.size + 1]? = some (.deferred (some []))
  later : Later w w'
  out : ∃ ov, Blk w' w.heap.size #[ov] 22 ∧ OwnS w' w.heap.size ov ks
theorem OwnS.sl {w : World} {B : Nat} {v : Value} {l : List ByteArray} (h : OwnS w B v l) : ∃ o c, v = .slice o l.length c := by
  obtain ⟨o, c, hv⟩ := Sl.slice h.st
  exact ⟨o, c, by simpa using hv⟩
set_option maxHeartbeats 1000000 in
theorem appendSeq_c (kl : Nat) (v : Value) (l : List ByteArray) (w : World) (hk : Blk w kl #[v] 22) (hs : StS w v l) (hl : l.length ≤ 1000000) :
    FnC Tryz.prog 142 #[.slice none 0 0, .func (.func 124) #[] #[pt kl]] w fun v w' => OwnS w' w.heap.size v l ∧ Later w w' := by
  have hkl : kl < w.heap.size := Blk.lt hk
  refine enter142 _ _ ?_
  unfold B142
  have eca : (Value.slice none 0 0).cells = #[.slice none 0 0] := rfl
  repeat' (first | (simp (disch := omega) only [push_cast, ↓reduceIte, zA, zG, zB, zH, zI, zC, zJ, zK, zL, zD, zE, zF, zM, zN, zO, zP, zQ, reduceCtorEq, not_true_eq_false, not_false_eq_true, eca]) | (first | refine iE ?_ ?_ | refine iD ?_ ?_ | refine iQ ?_ ?_ | refine iV ?_ ?_) <;> intro _ | refine And.intro (by omega) ?_ | refine drawn_q ?_ | fail)
  have B1 := Blk.new w #[.slice none 0 0] 22
  have s1 := World.size_alloc w (.cells #[.slice none 0 0] 22)
  have l1 := later_alloc w (.cells #[.slice none 0 0] 22)
  generalize w.alloc (.cells #[.slice none 0 0] 22) = w1 at *
  refine rngC_of hb124 ?_
  rintro D L rec hrec hD hL hyl
  have hDe : D = w.heap.size + 1 := by omega
  have hLe : L = w.heap.size + 2 := by omega
  have hrL : ((w1.alloc (.deferred (some []))).alloc (rec .ready .normal)).heap[L]? = some (rec .ready .normal) := by
    have := World.alloc_heap_new (w1.alloc (.deferred (some []))) (rec .ready .normal)
    rw [World.size_alloc] at this
    rw [hL]; exact this
  have hrD : ((w1.alloc (.deferred (some []))).alloc (rec .ready .normal)).heap[D]? = some (.deferred (some [])) := by
    rw [hD]
    exact heap_later (World.alloc_heap_new w1 _) (later_alloc _ _)
  have hl3 := later_two w1 (.deferred (some [])) (rec .ready .normal)
  generalize (w1.alloc (.deferred (some []))).alloc (rec .ready .normal) = w3 at *
  have hl03 := l1.trans hl3
  have B3 := B1.chg (Chg.of_later (ks := []) hl3) (by simp)
  subst hDe
  refine (vals1_c L kl v l (fun i w' => i ≤ l.length ∧ LpT w w' L (rec .ready .normal) (l.take i)) w3 ⟨Nat.zero_le _, hrL, hrD, hl03, _, B3, own_nil _ _ _ _⟩ hl ?_ ?_).mono ?_
  · rintro i u1 ⟨_, h1, h2, h3, _⟩
    exact ⟨Sl.later hs h3, hk.chg (Chg.of_later (ks := []) h3) (by simp)⟩
  · rintro i hi u1 ⟨_, h1, h2, h3, ov, h4, h5⟩
    refine hyl _ u1 _ ?_
    unfold Rnd
    refine ⟨h1, rfl, ?_⟩
    have hu1L : L < u1.heap.size := (Array.getElem?_eq_some_iff.1 h1).1
    have htk : l.take (i + 1) = l.take i ++ [l[i]] := List.take_succ_eq_append_getElem hi
    have hlt : (l.take i).length = i := by rw [List.length_take]; omega
    generalize l[i] = k at *
    generalize l.take i = ks at *
    repeat' (first | (simp (disch := omega) only [push_cast, ↓reduceIte, zA, zG, zB, zH, zI, zC, zJ, zK, zL, zD, zE, zF, zM, zN, zO, zP, zQ, reduceCtorEq, not_true_eq_false, not_false_eq_true]) | (first | refine iE ?_ ?_ | refine iD ?_ ?_ | refine iQ ?_ ?_ | refine iV ?_ ?_) <;> intro _ | refine And.intro (by omega) ?_ | refine drawn_q ?_ | fail)
    have gL := chg_putObj u1 (L := L) (ks := [L]) (by simp) (rec .busy .normal)
    have q1 : (u1.putObj L (rec .busy .normal)).heap[L]? = some (rec .busy .normal) := World.putObj_heap_same (Array.getElem?_eq_some_iff.1 h1).1
    have q2 := heap_chg h2 gL (by simp; omega)
    have q3 := gL.later h3 (by simp; omega)
    have q4 := h4.chg gL (by simp; omega)
    have q5 := own_obj h5 h1 (hrec _ _) gL
    generalize u1.putObj L (rec .busy .normal) = u3 at *
    obtain ⟨oo, cc, rfl⟩ := OwnS.sl q5
    have c0 : u3.cell? ⟨w.heap.size, 0, none⟩ = some (.slice oo ks.length cc) := q4.cell 0
    repeat' (first | (simp (disch := omega) only [push_cast, ↓reduceIte, zA, zG, zB, zH, zI, zC, zJ, zK, zL, zD, zE, zF, zM, zN, zO, zP, zQ, reduceCtorEq, not_true_eq_false, not_false_eq_true, c0]) | (first | refine iE ?_ ?_ | refine iD ?_ ?_ | refine iQ ?_ ?_ | refine iV ?_ ?_) <;> intro _ | refine And.intro (by omega) ?_ | refine drawn_q ?_ | fail)
    refine vAppend_own Tryz.underlying22 ti9 rfl (by decide) (own_alloc q5 _) (Sl.one u3 (.string k) 9) (by simp [Value.oneCell']) (by unfold maxLen; simp only [List.length_cons, List.length_nil]; omega) (by simp only [List.length_cons, List.length_nil]; omega) (by rw [World.size_alloc]; have := q3.size; omega) ?_
    intro v' u5 ho hg2 _
    have la := later_alloc u3 (.cells #[.string k] 9)
    have t5 : (u3.alloc (.cells #[.string k] 9)).ownsRow w.heap.size 9 1 (.slice oo ks.length cc) ks.length (ks.map Value.string) := own_alloc q5 _
    have v1 := grown_obj t5 hg2 (heap_later q1 la) (not_cells (hrec _ _) _)
    have v2 := grown_obj t5 hg2 (heap_later q2 la) (not_cells rfl _)
    have v4 : Blk u5 w.heap.size _ 22 := grown_obj t5 hg2 (heap_later q4 la) (fun cs h => by simp at h)
    have v3 : Later w u5 := (q3.trans la).appended t5 (Nat.le_refl _) hg2
    have ho : OwnS u5 w.heap.size v' (ks ++ [k]) := by simpa [OwnS] using ho
    obtain ⟨o2, c2, rfl⟩ := OwnS.sl ho
    have hfz := v4.frozen 0
    have hce : ∃ y, u5.cell? ⟨w.heap.size, 0, none⟩ = some y := ⟨_, v4.cell 0⟩
    have g3 := chg_setCell (i := 0) u5 (ks := [w.heap.size]) (k := w.heap.size) (by simp) (.slice o2 (ks ++ [k]).length c2)
    have z4 := v4.set 0 (.slice o2 (ks ++ [k]).length c2)
    repeat' (first | (simp (disch := omega) only [push_cast, ↓reduceIte, zA, zG, zB, zH, zI, zC, zJ, zK, zL, zD, zE, zF, zM, zN, zO, zP, zQ, reduceCtorEq, not_true_eq_false, not_false_eq_true, hfz]) | (first | refine iE ?_ ?_ | refine iD ?_ ?_ | refine iQ ?_ ?_ | refine iV ?_ ?_) <;> intro _ | refine And.intro (by omega) ?_ | refine drawn_q ?_ | fail)
    have z1 := heap_chg v1 g3 (by simp; omega)
    have z2 := heap_chg v2 g3 (by simp)
    have z3 := g3.later v3 (by simp)
    have z5 := own_chg_ty ho v4 (by decide) g3
    generalize u5.setCell ⟨w.heap.size, 0, none⟩ (.slice o2 (ks ++ [k]).length c2) = u6 at *
    have gE := chg_putObj u6 (L := L) (ks := [L]) (by simp) (rec .ready .normal)
    have hfin : LpT w (u6.putObj L (rec .ready .normal)) L (rec .ready .normal) (ks ++ [k]) := ⟨World.putObj_heap_same (Array.getElem?_eq_some_iff.1 z1).1, heap_chg z2 gE (by simp; omega), gE.later z3 (by simp; omega), _, z4.chg gE (by simp; omega), own_obj z5 z1 (hrec _ _) gE⟩
    repeat' (first | (simp (disch := omega) only [push_cast, ↓reduceIte, zA, zG, zB, zH, zI, zC, zJ, zK, zL, zD, zE, zF, zM, zN, zO, zP, zQ, reduceCtorEq, not_true_eq_false, not_false_eq_true]) | (first | refine iE ?_ ?_ | refine iD ?_ ?_ | refine iQ ?_ ?_ | refine iV ?_ ?_) <;> intro _ | refine And.intro (by omega) ?_ | refine drawn_q ?_ | fail)
    rw [htk]
    first | exact hfin | exact ⟨by omega, hfin⟩ | exact ⟨rfl, by omega, hfin⟩
  · rintro _ w4 ⟨_, h1, h2, h3, ov, h4, h5⟩
    have g1 := chg_putObj w4 (L := L) (ks := [L]) (by simp) (rec .exhausted .normal)
    have h2' := heap_chg h2 g1 (by simp; omega)
    have h5' := own_obj h5 h1 (hrec _ _) g1
    have g2 := chg_putObj (w4.putObj L (rec .exhausted .normal)) (L := w.heap.size + 1) (ks := [w.heap.size + 1]) (by simp) (.deferred none)
    have c1 : (w4.putObj L (rec .exhausted .normal)).cell? ⟨w.heap.size, 0, none⟩ = some ov := (h4.chg g1 (by simp; omega)).cell 0
    have h5'' := own_obj h5' h2' rfl g2
    have l5 := g2.later (g1.later h3 (by simp; omega)) (by simp)
    refine .inl ⟨h1, ?_⟩
    rw [List.take_of_length_le (Nat.le_refl _)] at h5''
    repeat' (first | (simp (disch := omega) only [push_cast, ↓reduceIte, zA, zG, zB, zH, zI, zC, zJ, zK, zL, zD, zE, zF, zM, zN, zO, zP, zQ, reduceCtorEq, not_true_eq_false, not_false_eq_true, c1]) | (first | refine iE ?_ ?_ | refine iD ?_ ?_ | refine iQ ?_ ?_ | refine iV ?_ ?_) <;> intro _ | refine And.intro (by omega) ?_ | refine drawn_q ?_ | fail)
    have h6 : OwnS ((w4.putObj L (rec .exhausted .normal)).putObj (w.heap.size + 1) (.deferred none)) w.heap.size ov l := h5''
    first | exact l5 | exact ⟨h6, l5⟩
theorem collectT_c (kl : Nat) (v : Value) (l : List ByteArray) (w : World) (hk : Blk w kl #[v] 22) (hs : StS w v l) (hl : l.length ≤ 1000000) :
    FnC Tryz.prog 122 #[.func (.func 124) #[] #[pt kl]] w fun v w' => OwnS w' w.heap.size v l ∧ Later w w' := by
  refine enter122 _ ?_
  unfold B122
  repeat' (first | (simp (disch := omega) only [push_cast, ↓reduceIte, zA, zG, zB, zH, zI, zC, zJ, zK, zL, zD, zE, zF, zM, zN, zO, zP, zQ, reduceCtorEq, not_true_eq_false, not_false_eq_true]) | (first | refine iE ?_ ?_ | refine iD ?_ ?_ | refine iQ ?_ ?_ | refine iV ?_ ?_) <;> intro _ | refine And.intro (by omega) ?_ | refine drawn_q ?_ | fail)
  refine (appendSeq_c kl v l w hk hs hl).mono ?_
  rintro v w1 ⟨ho, hl1⟩
  obtain ⟨o2, c2, rfl⟩ := OwnS.sl ho
  repeat' (first | (simp (disch := omega) only [push_cast, ↓reduceIte, zA, zG, zB, zH, zI, zC, zJ, zK, zL, zD, zE, zF, zM, zN, zO, zP, zQ, reduceCtorEq, not_true_eq_false, not_false_eq_true]) | (first | refine iE ?_ ?_ | refine iD ?_ ?_ | refine iQ ?_ ?_ | refine iV ?_ ?_) <;> intro _ | refine And.intro (by omega) ?_ | refine drawn_q ?_ | fail)
  first | exact ⟨ho, hl1⟩ | exact hl1
end Go.Proofs.YtnofalhkapmcnaaGreat
end
section
namespace Go.Vc
open Go
theorem bl_trans (a b c : List UInt8) (h1 : decide (a ≤ b) = true) (h2 : decide (b ≤ c) = true) : decide (a ≤ c) = true := by
  simp only [decide_eq_true_eq] at *; exact List.le_trans h1 h2
theorem bl_total (a b : List UInt8) : (decide (a ≤ b) || decide (b ≤ a)) = true := by simp only [Bool.or_eq_true, decide_eq_true_eq]; exact List.le_total a b
def srtB (ks : List ByteArray) : List (List UInt8) := (ks.map fun k => k.data.toList).mergeSort fun x y => decide (x ≤ y)
theorem srtB_len (ks : List ByteArray) : (srtB ks).length = ks.length := by simp [srtB]
theorem compact_len {zs : List (List UInt8)} (h : zs.Pairwise (· ≤ ·)) : (Lib.compact zs).length = zs.length ↔ zs.Nodup := by
  have e : (Lib.compact zs).length = zs.length ↔ ∀ i ∈ List.range zs.length, Lib.keeps zs.toArray i = true := by
    unfold Lib.compact Lib.compactUpTo
    rw [List.length_map, ← List.length_filter_eq_length_iff (l := List.range zs.length), List.length_range]
  rw [e]
  have getE : ∀ i (hi : i < zs.length), zs.toArray[i]! = zs[i] := fun i hi => by simp [getElem!_pos, hi]
  have hk : ∀ i (hi : i < zs.length) (h0 : i ≠ 0), Lib.keeps zs.toArray i = true ↔ zs[i] ≠ zs[i - 1]'(by omega) := by
    intro i hi h0
    unfold Lib.keeps
    rw [getE i hi, getE (i - 1) (by omega)]
    simp [h0]
  constructor
  · intro hall
    unfold List.Nodup
    rw [List.pairwise_iff_getElem]
    intro j i hj hi hji he
    have h1 := (hk i hi (by omega)).1 (hall i (List.mem_range.2 hi))
    have h2 : zs[j] ≤ zs[i - 1]'(by omega) := by
      by_cases e : j = i - 1
      · subst e; exact List.le_refl _
      · exact List.pairwise_iff_getElem.1 h j (i - 1) _ _ (by omega)
    have h3 : zs[i - 1]'(by omega) ≤ zs[i] := List.pairwise_iff_getElem.1 h (i - 1) i _ _ (by omega)
    rw [he] at h2
    exact h1 (List.le_antisymm h2 h3)
  · intro hn i hi
    rw [List.mem_range] at hi
    by_cases h0 : i = 0
    · subst h0; simp [Lib.keeps]
    · rw [hk i hi h0]
      intro he
      unfold List.Nodup at hn
      exact List.pairwise_iff_getElem.1 hn (i - 1) i _ _ (by omega) he.symm
theorem apart_iff (ks : List ByteArray) : (Lib.compact (srtB ks)).length = ks.length ↔ ks.Pairwise (fun x y => x ≠ y) := by
  have hs : (srtB ks).Pairwise (· ≤ ·) := (List.pairwise_mergeSort bl_trans bl_total _).imp (by simp)
  have h1 := compact_len hs
  rw [srtB_len] at h1
  rw [h1]
  have h2 : (srtB ks).Nodup ↔ (ks.map fun k => k.data.toList).Nodup := (List.mergeSort_perm _ _).nodup_iff
  rw [h2]
  unfold List.Nodup
  rw [List.pairwise_map]
  have hi : ∀ {a b : ByteArray}, a.data.toList ≠ b.data.toList ↔ a ≠ b := by
    intro a b
    constructor
    · intro h e; exact h (by rw [e])
    · intro h e; exact h (by
        obtain ⟨⟨a⟩⟩ := a; obtain ⟨⟨b⟩⟩ := b
        simp at e
        subst e; rfl)
  exact ⟨fun h => h.imp fun hh => hi.1 hh, fun h => h.imp fun hh => hi.2 hh⟩
end Go.Vc
namespace Go.Proofs.YtnofalhkapmcnaaGreat
open Go.Vc Go.Key
/-- A filter that may be: what its parts have for values that are no conditions' is "". -/
theorem form_vals (P : ByteArray → Bool) (hP : P ⟨#[]⟩ = true) : ∀ (f : FT) (deep : Nat), f.form deep = true → f.vals.all P = f.cvals.all P := by
  intro f
  induction f using FT.ind with
  | h f ih =>
  intro deep hf
  rw [FT.form_is, own_is] at hf
  simp only [Bool.and_eq_true] at hf
  obtain ⟨⟨_, hk⟩, ho⟩ := hf
  rw [FT.vals_is, FT.cvals_is, List.all_cons, List.all_append]
  have e1 : (f.kids.flatMap FT.vals).all P = (f.kids.flatMap FT.cvals).all P := by
    rw [List.all_flatMap, List.all_flatMap]
    rw [List.all_eq_true] at hk
    rw [Bool.eq_iff_iff, List.all_eq_true, List.all_eq_true]
    exact ⟨fun h x hx => by rw [← ih x hx _ (hk x hx)]; exact h x hx, fun h x hx => by rw [ih x hx _ (hk x hx)]; exact h x hx⟩
  rw [e1]
  congr 1
  by_cases h12 : f.op = 1 ∨ f.op = 2
  · rw [if_pos h12]; simp
  · rw [if_neg h12]
    have hn1 : ¬ f.op = 1 := fun h => h12 (.inl h)
    have hn2 : ¬ f.op = 2 := fun h => h12 (.inr h)
    rw [if_neg hn1, if_neg hn2] at ho
    have hv : f.value = ⟨#[]⟩ := by
      split at ho
      · simp only [Bool.and_eq_true, decide_eq_true_eq] at ho; exact ho.2
      · split at ho
        · simp only [Bool.and_eq_true, decide_eq_true_eq] at ho; exact ho.2
        · cases ho
    rw [hv, hP]; rfl
end Go.Proofs.YtnofalhkapmcnaaGreat
end
section
namespace Go.Vc
end Go.Vc
end
section
namespace Go.Bkt
def flr (t g : Int) : Int := t - t % g
/-- Go's remainder, and where a bucket begins. -/
theorem tm (t g : Int) (hg : 0 < g) : -g < t.tmod g ∧ t.tmod g < g ∧ t % g = (if t.tmod g < 0 then t.tmod g + g else t.tmod g) ∧ t.tdiv g * g = t - t.tmod g := by
  have h1 := Int.tmod_lt_of_pos t hg
  have h2 := Int.lt_tmod_of_pos t hg
  have h3 := Int.tdiv_mul_add_tmod t g
  have h4 : t % g = (t.tmod g) % g := by
    conv => lhs; rw [← h3]
    rw [Int.add_comm, Int.add_mul_emod_self_right]
  refine ⟨h2, h1, ?_, by omega⟩
  rw [h4]
  split
  · rename_i h
    have e : t.tmod g % g = (t.tmod g + g) % g := by rw [Int.add_emod_right]
    rw [e]; exact Int.emod_eq_of_lt (by omega) (by omega)
  · exact Int.emod_eq_of_lt (by omega) h1
theorem tmod_pos (t g : Int) (h : 0 ≤ t) : t.tmod g = t % g := Int.tmod_eq_emod_of_nonneg h
theorem tmod_emod (t g : Int) : t.tmod g % g = t % g := by
  have h3 := Int.tdiv_mul_add_tmod t g
  conv => rhs; rw [← h3]
  rw [Int.add_comm, Int.add_mul_emod_self_right]
theorem em (t g : Int) (hg : 0 < g) : 0 ≤ t % g ∧ t % g < g := ⟨Int.emod_nonneg _ (by omega), Int.emod_lt_of_pos _ hg⟩
theorem flr_le {t g : Int} (hg : 0 < g) : flr t g ≤ t ∧ t < flr t g + g := by
  have := em t g hg
  unfold flr; omega
/-- Where a stretch ends. -/
def nxt (at_ to_ g : Int) : Int := min (flr at_ g + g) to_
end Go.Bkt
end
section
namespace Go.Proofs.YtnofalhkapmcnaaGreat
open Go.Vc
set_option maxRecDepth 100000
variable (Q : Post) (ds : List Deferred) (σ : Env) (w : World)
/-! 22 columbary/columbaryref23.Bucket (params #[32, 3], results #[(.tmp 4)], 17 slots) -/
def r22_0 : List VOp :=
  [⟨some 2, .box 32 (.tmp 0), 0, none⟩,
   ⟨some 4, .assign (.const (.int .i64 0)), 3, none⟩]
def r22_1 : List VOp :=
  [fad 5 32 2 3,
   lda 6 3 5,
   ⟨some 7, .binOp .eql 3 (.tmp 6) (.const (.int .i64 0)) 3, 4, none⟩]
def r22_2 : List VOp :=
  [fad 8 32 2 1,
   lda 9 3 8,
   asg 4 9 3]
def r22_3 : List VOp :=
  [mv 10 1 3,
   fad 11 32 2 3,
   lda 12 3 11,
   ⟨some 13, .binOp .quo 3 (.tmp 10) (.tmp 12) 3, 3, none⟩,
   fad 14 32 2 3,
   lda 15 3 14,
   ⟨some 16, .binOp .mul 3 (.tmp 13) (.tmp 15) 3, 3, none⟩,
   asg 4 16 3]
def B22 : VC :=
  (.seq (.region r22_0) (.seq (.seq (.region r22_1) (.cond (.tmp 7) (.seq (.region r22_2) .ret) .skip)) (.seq (.draw r22_3 3) .ret)))
theorem code22 : ∃ c, Tryz.f22.body = some c ∧ abs Tryz.f22.ntmps c = B22 := ⟨_, rfl, by kernel_rfl⟩
theorem hb22 : HasBody Tryz.prog 22 := hasBody_of Tryz.func22 (by kernel_rfl)
theorem res22 : Tryz.f22.results = #[(.tmp 4)] := rfl
theorem enter22 {w : World} {R : Value → World → Prop} (x0 x1 : Value) (h : vc Tryz.prog B22 (retK Tryz.prog #[(.tmp 4)] R) [] (initEnv [x0, x1] 0) w) : FnC Tryz.prog 22 #[x0, x1] w R := by
  obtain ⟨c, h1, h2⟩ := code22
  exact hb22.fn (ret_of_vc mixed Tryz.func22 h1 (Nat.le_of_ble_eq_true rfl) B22 h2 h)
@[push_cast] theorem vr22_0 : VR r22_0 [⟨some 2, .box 32 (.tmp 0), 0, none⟩, ⟨some 4, .assign (.const (.int .i64 0)), 3, none⟩] := vR rfl
@[push_cast] theorem vr22_1 : VR r22_1 [⟨some 5, .fieldAddr 32 (.tmp 2) 3, 0, none⟩, ⟨some 6, .load 3 (.tmp 5), 3, none⟩, ⟨some 7, .binOp .eql 3 (.tmp 6) (.const (.int .i64 0)) 3, 4, none⟩] := vR rfl
@[push_cast] theorem vr22_2 : VR r22_2 [⟨some 8, .fieldAddr 32 (.tmp 2) 1, 0, none⟩, ⟨some 9, .load 3 (.tmp 8), 3, none⟩, ⟨some 4, .assign (.tmp 9), 3, none⟩] := vR rfl
@[push_cast] theorem vr22_3 : vc Tryz.prog (.draw r22_3 3) Q ds σ w = drawn Tryz.prog [(⟨some 10, .move (.tmp 1), 3, none⟩, [1]), (⟨some 11, .fieldAddr 32 (.tmp 2) 3, 0, none⟩, [2]), (⟨some 12, .load 3 (.tmp 11), 3, none⟩, [11]), (⟨some 13, .binOp .quo 3 (.tmp 10) (.tmp 12) 3, 3, none⟩, [10, 12]), (⟨some 14, .fieldAddr 32 (.tmp 2) 3, 0, none⟩, [2]), (⟨some 15, .load 3 (.tmp 14), 3, none⟩, [14]), (⟨some 16, .binOp .mul 3 (.tmp 13) (.tmp 15) 3, 3, none⟩, [13, 15]), (⟨some 4, .assign (.tmp 16), 3, none⟩, [16])] 3 (Q .normal ds) σ w := mk_eq rfl
end Go.Proofs.YtnofalhkapmcnaaGreat
end
section
set_option linter.unusedSimpArgs false
namespace Go.Proofs.YtnofalhkapmcnaaGreat
set_option maxRecDepth 100000
open Go.Vc Go.Bkt
abbrev Rt (g : Int) : Prop := 1 ≤ g ∧ g ≤ 1048576
abbrev Ft (t : Int) : Prop := -1099511627776 ≤ t ∧ t ≤ 1099511627776
abbrev I6 (t : Int) : Prop := -9223372036854775808 ≤ t ∧ t ≤ 9223372036854775807
theorem bright_c (g : Int) (w : World) (h : I6 g) : FnC Tryz.prog 93 #[.int .i64 g] w fun v w' => v = .bool (decide (Rt g)) ∧ w' = w := by
  refine enter93 _ ?_
  unfold B93
  by_cases h1 : 1 ≤ g <;> by_cases h2 : g ≤ 1048576
  all_goals
    repeat' (first | (simp (disch := omega) only [push_cast, ↓reduceIte, zA, zG, zB, zH, zI, zC, zJ, zK, zL, zD, zE, zF, zM, zN, zO, zP, zQ, reduceCtorEq, not_true_eq_false, not_false_eq_true]) | (first | refine iE ?_ ?_ | refine iD ?_ ?_ | refine iQ ?_ ?_ | refine iV ?_ ?_) <;> intro _ | refine And.intro (by omega) ?_ | refine drawn_q ?_ | fail)
    all_goals simp [h1, h2]
theorem bfits_c (t : Int) (w : World) (h : I6 t) : FnC Tryz.prog 101 #[.int .i64 t] w fun v w' => v = .bool (decide (Ft t)) ∧ w' = w := by
  refine enter101 _ ?_
  unfold B101
  by_cases h1 : -1099511627776 ≤ t <;> by_cases h2 : t ≤ 1099511627776
  all_goals
    repeat' (first | (simp (disch := omega) only [push_cast, ↓reduceIte, zA, zG, zB, zH, zI, zC, zJ, zK, zL, zD, zE, zF, zM, zN, zO, zP, zQ, reduceCtorEq, not_true_eq_false, not_false_eq_true]) | (first | refine iE ?_ ?_ | refine iD ?_ ?_ | refine iQ ?_ ?_ | refine iV ?_ ?_) <;> intro _ | refine And.intro (by omega) ?_ | refine drawn_q ?_ | fail)
    all_goals simp [h1, h2]
theorem rest_c (t g : Int) (w : World) (ht : Ft t) (hg : Rt g) : FnC Tryz.prog 102 #[.int .i64 t, .int .i64 g] w fun v w' => v = .int .i64 (t % g) ∧ w' = w := by
  obtain ⟨h1, h2, h3, _⟩ := tm t g (by omega)
  have h4 : (t.tmod g + g).tmod g = t % g := by
    obtain ⟨h5, h6, h7, _⟩ := tm (t.tmod g + g) g (by omega)
    have h8 := tmod_pos (t.tmod g + g) g (by omega)
    have h9 : (t.tmod g + g) % g = t % g := by
      rw [Int.add_emod_right]
      exact tmod_emod t g
    rw [h8, h9]
  refine enter102 _ _ ?_
  unfold B102
  generalize hm : t.tmod g = m at *
  repeat' (first | (simp (disch := omega) only [push_cast, ↓reduceIte, zA, zG, zB, zH, zI, zC, zJ, zK, zL, zD, zE, zF, zM, zN, zO, zP, zQ, reduceCtorEq, not_true_eq_false, not_false_eq_true, hm, h4]) | (first | refine iE ?_ ?_ | refine iD ?_ ?_ | refine iQ ?_ ?_ | refine iV ?_ ?_) <;> intro _ | refine And.intro (by omega) ?_ | refine drawn_q ?_ | fail)
  all_goals omega
/-- What Floor and Ceil answer. -/
def flrR (t g : Int) : Int × Int := if Rt g ∧ Ft t then (flr t g, 0) else (0, 111)
def tupF (p : Int × Int) : Value := .tuple #[.int .i64 p.1, .int .i64 p.2]
theorem bfloor_c (t g : Int) (w : World) (ht : I6 t) (hg : I6 g) : FnC Tryz.prog 54 #[.int .i64 t, .int .i64 g] w fun v w' => v = tupF (flrR t g) ∧ w' = w := by
  refine enter54 _ _ ?_
  unfold B54 tupF flrR
  repeat' (first | (simp (disch := omega) only [push_cast, ↓reduceIte, zA, zG, zB, zH, zI, zC, zJ, zK, zL, zD, zE, zF, zM, zN, zO, zP, zQ, reduceCtorEq, not_true_eq_false, not_false_eq_true]) | (first | refine iE ?_ ?_ | refine iD ?_ ?_ | refine iQ ?_ ?_ | refine iV ?_ ?_) <;> intro _ | refine And.intro (by omega) ?_ | refine drawn_q ?_ | fail)
  refine (bright_c g w hg).mono ?_
  rintro _ w0 ⟨rfl, hw⟩
  obtain rfl := hw.symm
  by_cases h0 : Rt g
  · repeat' (first | (simp (disch := omega) only [push_cast, ↓reduceIte, zA, zG, zB, zH, zI, zC, zJ, zK, zL, zD, zE, zF, zM, zN, zO, zP, zQ, reduceCtorEq, not_true_eq_false, not_false_eq_true, h0, decide_true, decide_false]) | (first | refine iE ?_ ?_ | refine iD ?_ ?_ | refine iQ ?_ ?_ | refine iV ?_ ?_) <;> intro _ | refine And.intro (by omega) ?_ | refine drawn_q ?_ | fail)
    refine (bfits_c t w ht).mono ?_
    rintro _ w0 ⟨rfl, hw⟩
    obtain rfl := hw.symm
    by_cases h1 : Ft t
    · rw [if_pos ⟨h0, h1⟩]
      have he := em t g (by omega)
      repeat' (first | (simp (disch := omega) only [push_cast, ↓reduceIte, zA, zG, zB, zH, zI, zC, zJ, zK, zL, zD, zE, zF, zM, zN, zO, zP, zQ, reduceCtorEq, not_true_eq_false, not_false_eq_true, h1, decide_true, decide_false]) | (first | refine iE ?_ ?_ | refine iD ?_ ?_ | refine iQ ?_ ?_ | refine iV ?_ ?_) <;> intro _ | refine And.intro (by omega) ?_ | refine drawn_q ?_ | fail)
      refine (rest_c t g w h1 h0).mono ?_
      rintro _ w0 ⟨rfl, hw⟩
      obtain rfl := hw.symm
      unfold flr
      generalize t % g = m at *
      repeat' (first | (simp (disch := omega) only [push_cast, ↓reduceIte, zA, zG, zB, zH, zI, zC, zJ, zK, zL, zD, zE, zF, zM, zN, zO, zP, zQ, reduceCtorEq, not_true_eq_false, not_false_eq_true]) | (first | refine iE ?_ ?_ | refine iD ?_ ?_ | refine iQ ?_ ?_ | refine iV ?_ ?_) <;> intro _ | refine And.intro (by omega) ?_ | refine drawn_q ?_ | fail)
    · rw [if_neg (fun h => h1 h.2)]
      repeat' (first | (simp (disch := omega) only [push_cast, ↓reduceIte, zA, zG, zB, zH, zI, zC, zJ, zK, zL, zD, zE, zF, zM, zN, zO, zP, zQ, reduceCtorEq, not_true_eq_false, not_false_eq_true, h1, decide_true, decide_false]) | (first | refine iE ?_ ?_ | refine iD ?_ ?_ | refine iQ ?_ ?_ | refine iV ?_ ?_) <;> intro _ | refine And.intro (by omega) ?_ | refine drawn_q ?_ | fail)
  · rw [if_neg (fun h => h0 h.1)]
    repeat' (first | (simp (disch := omega) only [push_cast, ↓reduceIte, zA, zG, zB, zH, zI, zC, zJ, zK, zL, zD, zE, zF, zM, zN, zO, zP, zQ, reduceCtorEq, not_true_eq_false, not_false_eq_true, h0, decide_true, decide_false]) | (first | refine iE ?_ ?_ | refine iD ?_ ?_ | refine iQ ?_ ?_ | refine iV ?_ ?_) <;> intro _ | refine And.intro (by omega) ?_ | refine drawn_q ?_ | fail)
end Go.Proofs.YtnofalhkapmcnaaGreat
end
