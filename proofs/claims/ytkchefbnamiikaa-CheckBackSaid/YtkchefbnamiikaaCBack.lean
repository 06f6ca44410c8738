/- CheckBack holds for every input: blocks of any bytes, one behind the other, are told as they were; of them, with any bytes behind, at least these are told. -/
import Derived.Test.YtkchefbnamiikaaRows
import Derived.Test.YtkchefbnamiikaaChk4
import Derived.Test.YtkchefbnamiikaaCodesCL
import Derived.Test.YtkchefbnamiikaaRow
set_option linter.unusedSimpArgs false
namespace Go.Proofs.Ytkchefbnamiikaa.checkBack
open Go.Vc Go.Chk Go.Zig Go.ChangeShapes Go.WideShapes Go.ChangeAt Go.RowKit
theorem fsR_blk {a : List UInt8} (ha : a.length ≤ 16777216) : fsR (blkB a) = (a, (blkB a).length, 0) := by
  have h1 := fst_blk ha []
  rw [List.append_nil] at h1
  exact fsR_some h1
theorem blks_all {ls : List (List UInt8)} (h : ∀ x ∈ ls, x.length ≤ 400) : blks (cat ls) = (ls, (cat ls).length) := by
  have := blks_cat ls [] (fun x hx => by have := h x hx; omega)
  rw [List.append_nil, blks_nil] at this
  simpa using this
theorem LLo.grown {Q : World → Value → List UInt8 → Prop} {w w' : World} {B B' : Nat} {e e' : TypeId} {v v' : Value} {n' : Nat} {xs' : List Value} {ls : List (List UInt8)} (h : LLo Q w B e v ls) (hc : w.ownsRow B' e' 1 v' n' xs') (hne : e ≠ e') (g : w.grownBy w' v'.ownBlock) (hQ : ∀ x m, Q w x m → Q w' x m) : LLo Q w' B e v ls := by
  obtain ⟨vs, h1, h2⟩ := h
  exact ⟨vs, own_grown_ty h1 hc hne g, fun i x l hx hl => hQ _ _ (h2 i x l hx hl)⟩
theorem LLo.last {Q : World → Value → List UInt8 → Prop} {w : World} {B : Nat} {e : TypeId} {v : Value} {ls : List (List UInt8)} {l : List UInt8} (h : LLo Q w B e v (ls ++ [l])) : ∃ x m, Q w x m := by
  obtain ⟨vs, h1, h2⟩ := h
  have hn := own_n h1
  simp at hn
  exact ⟨vs[0]'(by omega), (ls ++ [l])[0]'(by simp), h2 0 _ _ (List.getElem?_eq_getElem (by omega)) (List.getElem?_eq_getElem (by simp))⟩
set_option maxRecDepth 100000 in
theorem law_c (vl vb : Value) (l : List (List UInt8)) (bh : List UInt8) (w : World) (hl : LL w vl l) (hb : Sl w vb (bh.map u8v)) : FnC Try.prog 12 #[vl, vb] w fun v w' => v = .bool true ∧ Later w w' := by
  have hsb := hb
  obtain ⟨ol, cl, rfl, l1, l2⟩ := hl.slice
  obtain ⟨ob, cb, rfl, b1, b2, hb, _⟩ := hb.openM
  refine enter12 _ _ ?_
  unfold B12
  repeat' (first | (simp (disch := omega) only [push_cast, ↓reduceIte, Nat.reduceEqDiff, Int.reduceToNat, Nat.reducePow, Int.reducePow, Int.reduceNeg, Nat.reduceMul, Int.reduceMul, Int.reduceAdd, Int.reduceSub, Nat.reduceAdd, Nat.reduceSub, Nat.reduceLeDiff, Int.reduceLT, Int.reduceLE, Int.reduceEq, Int.reduceMod, Int.reduceDiv, reduceCtorEq, not_true_eq_false, not_false_eq_true]) | refine vIfE_of (fun _ => ?_) (fun _ => ?_) | refine vIfD_of (fun _ => ?_) (fun _ => ?_) | refine vIfQ_of (fun _ => ?_) (fun _ => ?_) | refine vIfV_of (fun _ => ?_) (fun _ => ?_) | refine And.intro (by omega) ?_ | refine drawn_q ?_ | fail)
  refine vc_loop W12_0 (fun p : Nat × Value × Value => [(5, p.2.1), (6, p.2.2), (7, .int .i64 (p.1 : Int))])
    (fun p w' => p.1 ≤ min l.length 20 ∧ Later w w' ∧ ∃ ds : List (List UInt8), (∀ x ∈ ds, x.length ≤ 400) ∧ (cat ds).length ≤ 414 * p.1 ∧ ds.length ≤ p.1 ∧ OwnB w' w.heap.size 5 p.2.1 (cat ds) ∧
      LLo (fun _ x m => Sl w x (m.map u8v)) w' w.heap.size 24 p.2.2 ds) (fun p => 20 - p.1) (0, .slice none 0 0, .slice none 0 0) (by decide) ?_ ?_ ?_
  · simp (disch := omega) only [push_cast, ↓reduceIte, Nat.reduceEqDiff, Int.reduceToNat, Nat.reducePow, Int.reducePow, Int.reduceNeg, Nat.reduceMul, Int.reduceMul, Int.reduceAdd, Int.reduceSub, Nat.reduceAdd, Nat.reduceSub, Nat.reduceLeDiff, Int.reduceLT, Int.reduceLE, Int.reduceEq, Int.reduceMod, Int.reduceDiv, reduceCtorEq, not_true_eq_false, not_false_eq_true]
  · exact ⟨by omega, Later.refl _, [], by simp, by simp [cat], by simp, own_nil _ _ _ _, LLo.nil _ _ _ _⟩
  rintro ⟨i, bv, dv⟩ uu w1 ⟨hi, hl1, ds, hds, hcl, hdl, hob, hod⟩
  dsimp only at hi hob hod hcl hdl
  obtain ⟨oc, cc, rfl⟩ := hob.slice
  obtain ⟨od, cd, rfl⟩ := hod.len
  by_cases hi' : i < l.length ∧ i < 20
  · obtain ⟨aa, x, rfl, c0, sx⟩ := hl.at hi'.1
    have c0 := hl1.cell c0
    obtain ⟨ox, cx, rfl, x1, x2, sx, _⟩ := sx.openM
    generalize l[i]'(hi'.1) = m at *
    by_cases hm : 400 < m.length
    · repeat' (first | (simp (disch := omega) only [push_cast, ↓reduceIte, Nat.reduceEqDiff, Int.reduceToNat, Nat.reducePow, Int.reducePow, Int.reduceNeg, Nat.reduceMul, Int.reduceMul, Int.reduceAdd, Int.reduceSub, Nat.reduceAdd, Nat.reduceSub, Nat.reduceLeDiff, Int.reduceLT, Int.reduceLE, Int.reduceEq, Int.reduceMod, Int.reduceDiv, reduceCtorEq, not_true_eq_false, not_false_eq_true, c0]) | refine vIfE_of (fun _ => ?_) (fun _ => ?_) | refine vIfD_of (fun _ => ?_) (fun _ => ?_) | refine vIfQ_of (fun _ => ?_) (fun _ => ?_) | refine vIfV_of (fun _ => ?_) (fun _ => ?_) | refine And.intro (by omega) ?_ | refine drawn_q ?_ | fail)
      exact ⟨rfl, (i + 1, _, _), by simp (disch := omega) only [push_cast, ↓reduceIte, Nat.reduceEqDiff, Int.reduceToNat, Nat.reducePow, Int.reducePow, Int.reduceNeg, Nat.reduceMul, Int.reduceMul, Int.reduceAdd, Int.reduceSub, Nat.reduceAdd, Nat.reduceSub, Nat.reduceLeDiff, Int.reduceLT, Int.reduceLE, Int.reduceEq, Int.reduceMod, Int.reduceDiv, reduceCtorEq, not_true_eq_false, not_false_eq_true], ⟨by dsimp only; omega, hl1, ds, hds, by dsimp only; omega, by dsimp only; omega, hob, hod⟩, by simp; omega⟩
    have hz := zi_len (show I64 (m.length : Int) by unfold I64; omega)
    have hbl := blkB_len m
    repeat' (first | (simp (disch := omega) only [push_cast, ↓reduceIte, Nat.reduceEqDiff, Int.reduceToNat, Nat.reducePow, Int.reducePow, Int.reduceNeg, Nat.reduceMul, Int.reduceMul, Int.reduceAdd, Int.reduceSub, Nat.reduceAdd, Nat.reduceSub, Nat.reduceLeDiff, Int.reduceLT, Int.reduceLE, Int.reduceEq, Int.reduceMod, Int.reduceDiv, reduceCtorEq, not_true_eq_false, not_false_eq_true, c0]) | refine vIfE_of (fun _ => ?_) (fun _ => ?_) | refine vIfD_of (fun _ => ?_) (fun _ => ?_) | refine vIfQ_of (fun _ => ?_) (fun _ => ?_) | refine vIfV_of (fun _ => ?_) (fun _ => ?_) | refine And.intro (by omega) ?_ | refine drawn_q ?_ | fail)
    refine (block_c _ m w1 (sx.later hl1)).mono ?_
    rintro _ w2 ⟨hbd, hl2⟩
    rcases hbd with ⟨hbad, _⟩ | ⟨_, y, rfl, hy⟩
    · omega
    obtain ⟨oy, cy, rfl⟩ := hy.slice
    have hl12 := hl1.trans hl2
    repeat' (first | (simp (disch := omega) only [push_cast, ↓reduceIte, Nat.reduceEqDiff, Int.reduceToNat, Nat.reducePow, Int.reducePow, Int.reduceNeg, Nat.reduceMul, Int.reduceMul, Int.reduceAdd, Int.reduceSub, Nat.reduceAdd, Nat.reduceSub, Nat.reduceLeDiff, Int.reduceLT, Int.reduceLE, Int.reduceEq, Int.reduceMod, Int.reduceDiv, reduceCtorEq, not_true_eq_false, not_false_eq_true]) | refine vIfE_of (fun _ => ?_) (fun _ => ?_) | refine vIfD_of (fun _ => ?_) (fun _ => ?_) | refine vIfQ_of (fun _ => ?_) (fun _ => ?_) | refine vIfV_of (fun _ => ?_) (fun _ => ?_) | refine And.intro (by omega) ?_ | refine drawn_q ?_ | fail)
    refine (first_c _ (blkB m) w2 hy.sl (by omega)).mono ?_
    rintro _ w3 ⟨⟨u, rfl, hu⟩, hl3⟩
    have hfa := fsR_blk (a := m) (by omega)
    rw [hfa] at hu ⊢
    dsimp only at hu ⊢
    obtain ⟨ou, cu, rfl⟩ := hu.slice
    have hl23 := hl2.trans hl3
    have hl13 := hl1.trans hl23
    have c3 := hl23.cell c0
    repeat' (first | (simp (disch := omega) only [push_cast, ↓reduceIte, Nat.reduceEqDiff, Int.reduceToNat, Nat.reducePow, Int.reducePow, Int.reduceNeg, Nat.reduceMul, Int.reduceMul, Int.reduceAdd, Int.reduceSub, Nat.reduceAdd, Nat.reduceSub, Nat.reduceLeDiff, Int.reduceLT, Int.reduceLE, Int.reduceEq, Int.reduceMod, Int.reduceDiv, reduceCtorEq, not_true_eq_false, not_false_eq_true]) | refine vIfE_of (fun _ => ?_) (fun _ => ?_) | refine vIfD_of (fun _ => ?_) (fun _ => ?_) | refine vIfQ_of (fun _ => ?_) (fun _ => ?_) | refine vIfV_of (fun _ => ?_) (fun _ => ?_) | refine And.intro (by omega) ?_ | fail)
    refine drawn_q ?_
    repeat' (first | (simp (disch := omega) only [push_cast, ↓reduceIte, Nat.reduceEqDiff, Int.reduceToNat, Nat.reducePow, Int.reducePow, Int.reduceNeg, Nat.reduceMul, Int.reduceMul, Int.reduceAdd, Int.reduceSub, Nat.reduceAdd, Nat.reduceSub, Nat.reduceLeDiff, Int.reduceLT, Int.reduceLE, Int.reduceEq, Int.reduceMod, Int.reduceDiv, reduceCtorEq, not_true_eq_false, not_false_eq_true, c3]) | refine vIfE_of (fun _ => ?_) (fun _ => ?_) | refine vIfD_of (fun _ => ?_) (fun _ => ?_) | refine vIfQ_of (fun _ => ?_) (fun _ => ?_) | refine vIfV_of (fun _ => ?_) (fun _ => ?_) | refine And.intro (by omega) ?_ | refine drawn_q ?_ | fail)
    refine qConv_bytes Try.underlying24 Try.underlying9 Try.underlying5 (by simp (disch := omega) only [push_cast, ↓reduceIte, Nat.reduceEqDiff, Int.reduceToNat, Nat.reducePow, Int.reducePow, Int.reduceNeg, Nat.reduceMul, Int.reduceMul, Int.reduceAdd, Int.reduceSub, Nat.reduceAdd, Nat.reduceSub, Nat.reduceLeDiff, Int.reduceLT, Int.reduceLE, Int.reduceEq, Int.reduceMod, Int.reduceDiv, reduceCtorEq, not_true_eq_false, not_false_eq_true]) hu.sl ?_
    repeat' (first | (simp (disch := omega) only [push_cast, ↓reduceIte, Nat.reduceEqDiff, Int.reduceToNat, Nat.reducePow, Int.reducePow, Int.reduceNeg, Nat.reduceMul, Int.reduceMul, Int.reduceAdd, Int.reduceSub, Nat.reduceAdd, Nat.reduceSub, Nat.reduceLeDiff, Int.reduceLT, Int.reduceLE, Int.reduceEq, Int.reduceMod, Int.reduceDiv, reduceCtorEq, not_true_eq_false, not_false_eq_true, c3]) | refine vIfE_of (fun _ => ?_) (fun _ => ?_) | refine vIfD_of (fun _ => ?_) (fun _ => ?_) | refine vIfQ_of (fun _ => ?_) (fun _ => ?_) | refine vIfV_of (fun _ => ?_) (fun _ => ?_) | refine And.intro (by omega) ?_ | refine drawn_q ?_ | fail)
    refine qConv_bytes Try.underlying24 Try.underlying9 Try.underlying5 (by simp (disch := omega) only [push_cast, ↓reduceIte, Nat.reduceEqDiff, Int.reduceToNat, Nat.reducePow, Int.reducePow, Int.reduceNeg, Nat.reduceMul, Int.reduceMul, Int.reduceAdd, Int.reduceSub, Nat.reduceAdd, Nat.reduceSub, Nat.reduceLeDiff, Int.reduceLT, Int.reduceLE, Int.reduceEq, Int.reduceMod, Int.reduceDiv, reduceCtorEq, not_true_eq_false, not_false_eq_true]) (sx.later hl13) ?_
    repeat' (first | (simp (disch := omega) only [push_cast, ↓reduceIte, Nat.reduceEqDiff, Int.reduceToNat, Nat.reducePow, Int.reducePow, Int.reduceNeg, Nat.reduceMul, Int.reduceMul, Int.reduceAdd, Int.reduceSub, Nat.reduceAdd, Nat.reduceSub, Nat.reduceLeDiff, Int.reduceLT, Int.reduceLE, Int.reduceEq, Int.reduceMod, Int.reduceDiv, reduceCtorEq, not_true_eq_false, not_false_eq_true, c3]) | refine vIfE_of (fun _ => ?_) (fun _ => ?_) | refine vIfD_of (fun _ => ?_) (fun _ => ?_) | refine vIfQ_of (fun _ => ?_) (fun _ => ?_) | refine vIfV_of (fun _ => ?_) (fun _ => ?_) | refine And.intro (by omega) ?_ | refine drawn_q ?_ | fail)
    intro w4 hl4
    have hl34 := hl3.trans hl4
    have hl24 := hl23.trans hl4
    have hl14 := hl13.trans hl4
    have hy4 := hy.later hl34
    have hob4 := hob.later hl24
    have hod4 : LLo (fun _ x m => Sl w x (m.map u8v)) w4 w.heap.size 24 _ ds := hod.mono hl24 fun x m h => h
    repeat' (first | (simp (disch := omega) only [push_cast, ↓reduceIte, Nat.reduceEqDiff, Int.reduceToNat, Nat.reducePow, Int.reducePow, Int.reduceNeg, Nat.reduceMul, Int.reduceMul, Int.reduceAdd, Int.reduceSub, Nat.reduceAdd, Nat.reduceSub, Nat.reduceLeDiff, Int.reduceLT, Int.reduceLE, Int.reduceEq, Int.reduceMod, Int.reduceDiv, reduceCtorEq, not_true_eq_false, not_false_eq_true]) | refine vIfE_of (fun _ => ?_) (fun _ => ?_) | refine vIfD_of (fun _ => ?_) (fun _ => ?_) | refine vIfQ_of (fun _ => ?_) (fun _ => ?_) | refine vIfV_of (fun _ => ?_) (fun _ => ?_) | refine And.intro (by omega) ?_ | refine drawn_q ?_ | fail)
    refine vAppend_own Try.underlying24 ti5 rfl (by decide) hob4 (sl8_n hy4.sl) (u8vs_one _) (by unfold maxLen; omega) (by omega) hl14.size ?_
    intro b5 w5 hb5 g5 _
    have hl5 := hl14.appended hob4 (Nat.le_refl _) g5
    have hb5 := own8_app hb5
    rw [← cat_snoc] at hb5
    have hod5 := LLo.grown hod4 hob4 (by decide) g5 (fun x m h => h)
    have c5 : w5.cell? (aa.add i) = some (.slice ox m.length cx) := by
      have hw0 : w.cell? (aa.add i) = some (.slice ox m.length cx) := by assumption
      exact hl5.cell hw0
    have hdv : LLo (fun w' x q => Sl w x (q.map u8v) ∧ OwnB w' w.heap.size 5 b5 (cat (ds ++ [m]))) w5 w.heap.size 24 _ ds := hod5.mono (Later.refl _) fun x q h => ⟨h, hb5⟩
    have hcat : (cat (ds ++ [m])).length = (cat ds).length + (blkB m).length := by rw [cat_snoc, List.length_append]
    repeat' (first | (simp (disch := omega) only [push_cast, ↓reduceIte, Nat.reduceEqDiff, Int.reduceToNat, Nat.reducePow, Int.reducePow, Int.reduceNeg, Nat.reduceMul, Int.reduceMul, Int.reduceAdd, Int.reduceSub, Nat.reduceAdd, Nat.reduceSub, Nat.reduceLeDiff, Int.reduceLT, Int.reduceLE, Int.reduceEq, Int.reduceMod, Int.reduceDiv, reduceCtorEq, not_true_eq_false, not_false_eq_true, c5]) | refine vIfE_of (fun _ => ?_) (fun _ => ?_) | refine vIfD_of (fun _ => ?_) (fun _ => ?_) | refine vIfQ_of (fun _ => ?_) (fun _ => ?_) | refine vIfV_of (fun _ => ?_) (fun _ => ?_) | refine And.intro (by omega) ?_ | refine drawn_q ?_ | fail)
    refine LLo.snoc (Q := fun w' x q => Sl w x (q.map u8v) ∧ OwnB w' w.heap.size 5 b5 (cat (ds ++ [m]))) Try.underlying51 ti24 rfl hdv ⟨sx, hb5⟩ rfl (by unfold maxLen; omega) (by omega) hl5.size ?_ ?_
    · intro w' vs hown hg y q hy
      exact ⟨hy.1, own_grown_ty (own_alloc hy.2 _) hown (by decide) hg⟩
    · intro v' w' hll hlat
      obtain ⟨_, _, _, hb'⟩ := LLo.last hll
      repeat' (first | (simp (disch := omega) only [push_cast, ↓reduceIte, Nat.reduceEqDiff, Int.reduceToNat, Nat.reducePow, Int.reducePow, Int.reduceNeg, Nat.reduceMul, Int.reduceMul, Int.reduceAdd, Int.reduceSub, Nat.reduceAdd, Nat.reduceSub, Nat.reduceLeDiff, Int.reduceLT, Int.reduceLE, Int.reduceEq, Int.reduceMod, Int.reduceDiv, reduceCtorEq, not_true_eq_false, not_false_eq_true]) | refine vIfE_of (fun _ => ?_) (fun _ => ?_) | refine vIfD_of (fun _ => ?_) (fun _ => ?_) | refine vIfQ_of (fun _ => ?_) (fun _ => ?_) | refine vIfV_of (fun _ => ?_) (fun _ => ?_) | refine And.intro (by omega) ?_ | refine drawn_q ?_ | fail)
      refine ⟨rfl, (i + 1, b5, v'), by simp (disch := omega) only [push_cast, ↓reduceIte, Nat.reduceEqDiff, Int.reduceToNat, Nat.reducePow, Int.reducePow, Int.reduceNeg, Nat.reduceMul, Int.reduceMul, Int.reduceAdd, Int.reduceSub, Nat.reduceAdd, Nat.reduceSub, Nat.reduceLeDiff, Int.reduceLT, Int.reduceLE, Int.reduceEq, Int.reduceMod, Int.reduceDiv, reduceCtorEq, not_true_eq_false, not_false_eq_true], ⟨by dsimp only; omega, hlat _ hl5 (Nat.le_refl _), ds ++ [m], ?_, by dsimp only; omega, by simp; omega, hb', hll.mono (Later.refl _) fun x q h => h.1⟩, by simp; omega⟩
      intro q hq
      rcases List.mem_append.1 hq with hq | hq
      · exact hds q hq
      · simp only [List.mem_singleton] at hq
        subst hq; omega
  · have hall := blks_all hds
    have hcl' : (cat ds).length ≤ 8280 := by omega
    repeat' (first | (simp (disch := omega) only [push_cast, ↓reduceIte, Nat.reduceEqDiff, Int.reduceToNat, Nat.reducePow, Int.reducePow, Int.reduceNeg, Nat.reduceMul, Int.reduceMul, Int.reduceAdd, Int.reduceSub, Nat.reduceAdd, Nat.reduceSub, Nat.reduceLeDiff, Int.reduceLT, Int.reduceLE, Int.reduceEq, Int.reduceMod, Int.reduceDiv, reduceCtorEq, not_true_eq_false, not_false_eq_true]) | refine vIfE_of (fun _ => ?_) (fun _ => ?_) | refine vIfD_of (fun _ => ?_) (fun _ => ?_) | refine vIfQ_of (fun _ => ?_) (fun _ => ?_) | refine vIfV_of (fun _ => ?_) (fun _ => ?_) | refine And.intro (by omega) ?_ | refine drawn_q ?_ | fail)
    all_goals
      refine (blocks_c _ (cat ds) w1 hob.sl (by omega)).mono ?_
      rintro _ w2 ⟨⟨pm, rfl, hpm⟩, hl2⟩
      rw [hall] at hpm ⊢
      dsimp only at hpm ⊢
      have hl12 := hl1.trans hl2
      have hob2 := hob.later hl2
      have hod2 := (hod.mono (Q' := fun _ x q => Sl w x (q.map u8v)) hl2 (fun x q h => h)).ll (fun x q h => h.later hl12)
      obtain ⟨opm, cpm, rfl, _, _⟩ := hpm.slice
      repeat' (first | (simp (disch := omega) only [push_cast, ↓reduceIte, Nat.reduceEqDiff, Int.reduceToNat, Nat.reducePow, Int.reducePow, Int.reduceNeg, Nat.reduceMul, Int.reduceMul, Int.reduceAdd, Int.reduceSub, Nat.reduceAdd, Nat.reduceSub, Nat.reduceLeDiff, Int.reduceLT, Int.reduceLE, Int.reduceEq, Int.reduceMod, Int.reduceDiv, reduceCtorEq, not_true_eq_false, not_false_eq_true]) | refine vIfE_of (fun _ => ?_) (fun _ => ?_) | refine vIfD_of (fun _ => ?_) (fun _ => ?_) | refine vIfQ_of (fun _ => ?_) (fun _ => ?_) | refine vIfV_of (fun _ => ?_) (fun _ => ?_) | refine And.intro (by omega) ?_ | refine drawn_q ?_ | fail)
      refine (lsame_c _ _ ds ds w2 hpm hod2).mono ?_
      rintro _ w3 ⟨rfl, hl3⟩
      have hl13 := hl12.trans hl3
      have hob3 := hob2.later hl3
      have hod3 := hod2.later hl3
      by_cases hbh : 400 < bh.length
      · repeat' (first | (simp (disch := omega) only [push_cast, ↓reduceIte, Nat.reduceEqDiff, Int.reduceToNat, Nat.reducePow, Int.reducePow, Int.reduceNeg, Nat.reduceMul, Int.reduceMul, Int.reduceAdd, Int.reduceSub, Nat.reduceAdd, Nat.reduceSub, Nat.reduceLeDiff, Int.reduceLT, Int.reduceLE, Int.reduceEq, Int.reduceMod, Int.reduceDiv, reduceCtorEq, not_true_eq_false, not_false_eq_true, decide_true]) | refine vIfE_of (fun _ => ?_) (fun _ => ?_) | refine vIfD_of (fun _ => ?_) (fun _ => ?_) | refine vIfQ_of (fun _ => ?_) (fun _ => ?_) | refine vIfV_of (fun _ => ?_) (fun _ => ?_) | refine And.intro (by omega) ?_ | refine drawn_q ?_ | fail)
        refine (calive_c w3).mono ?_
        rintro _ w4 ⟨rfl, hl4⟩
        repeat' (first | (simp (disch := omega) only [push_cast, ↓reduceIte, Nat.reduceEqDiff, Int.reduceToNat, Nat.reducePow, Int.reducePow, Int.reduceNeg, Nat.reduceMul, Int.reduceMul, Int.reduceAdd, Int.reduceSub, Nat.reduceAdd, Nat.reduceSub, Nat.reduceLeDiff, Int.reduceLT, Int.reduceLE, Int.reduceEq, Int.reduceMod, Int.reduceDiv, reduceCtorEq, not_true_eq_false, not_false_eq_true]) | refine vIfE_of (fun _ => ?_) (fun _ => ?_) | refine vIfD_of (fun _ => ?_) (fun _ => ?_) | refine vIfQ_of (fun _ => ?_) (fun _ => ?_) | refine vIfV_of (fun _ => ?_) (fun _ => ?_) | refine And.intro (by omega) ?_ | refine drawn_q ?_ | fail)
        exact hl13.trans hl4
      repeat' (first | (simp (disch := omega) only [push_cast, ↓reduceIte, Nat.reduceEqDiff, Int.reduceToNat, Nat.reducePow, Int.reducePow, Int.reduceNeg, Nat.reduceMul, Int.reduceMul, Int.reduceAdd, Int.reduceSub, Nat.reduceAdd, Nat.reduceSub, Nat.reduceLeDiff, Int.reduceLT, Int.reduceLE, Int.reduceEq, Int.reduceMod, Int.reduceDiv, reduceCtorEq, not_true_eq_false, not_false_eq_true, decide_true]) | refine vIfE_of (fun _ => ?_) (fun _ => ?_) | refine vIfD_of (fun _ => ?_) (fun _ => ?_) | refine vIfQ_of (fun _ => ?_) (fun _ => ?_) | refine vIfV_of (fun _ => ?_) (fun _ => ?_) | refine And.intro (by omega) ?_ | refine drawn_q ?_ | fail)
      have hln := later_alloc w3 (.cells #[] 5)
      refine vAppend_own Try.underlying24 ti5 rfl (by decide) (base := w3.heap.size) (own_lit w3 [] 5 1 0 rfl (Nat.zero_le _) (Nat.le_refl _)) (sl8_n (hob3.sl.later hln)) (u8vs_one _) (by unfold maxLen; omega) (by omega) hln.size ?_
      intro y w4 hy gy _
      have hl4 : Later w3 w4 := hln.appended (own_lit w3 [] 5 1 0 rfl (Nat.zero_le _) (Nat.le_refl _)) (Nat.le_refl _) gy
      have hy := own8_of (l := cat ds) hy
      have hl14 := hl13.trans hl4
      obtain ⟨oy, cy, rfl⟩ := hy.slice
      repeat' (first | (simp (disch := omega) only [push_cast, ↓reduceIte, Nat.reduceEqDiff, Int.reduceToNat, Nat.reducePow, Int.reducePow, Int.reduceNeg, Nat.reduceMul, Int.reduceMul, Int.reduceAdd, Int.reduceSub, Nat.reduceAdd, Nat.reduceSub, Nat.reduceLeDiff, Int.reduceLT, Int.reduceLE, Int.reduceEq, Int.reduceMod, Int.reduceDiv, reduceCtorEq, not_true_eq_false, not_false_eq_true]) | refine vIfE_of (fun _ => ?_) (fun _ => ?_) | refine vIfD_of (fun _ => ?_) (fun _ => ?_) | refine vIfQ_of (fun _ => ?_) (fun _ => ?_) | refine vIfV_of (fun _ => ?_) (fun _ => ?_) | refine And.intro (by omega) ?_ | refine drawn_q ?_ | fail)
      refine vAppend_own Try.underlying24 ti5 rfl (by decide) hy (sl8_n (hsb.later hl14)) (u8vs_one _) (by unfold maxLen; omega) (by omega) hl4.size ?_
      intro z w5 hz gz _
      have hl5 : Later w3 w5 := hl4.appended hy (Nat.le_refl _) gz
      have hz := own8_app hz
      repeat' (first | (simp (disch := omega) only [push_cast, ↓reduceIte, Nat.reduceEqDiff, Int.reduceToNat, Nat.reducePow, Int.reducePow, Int.reduceNeg, Nat.reduceMul, Int.reduceMul, Int.reduceAdd, Int.reduceSub, Nat.reduceAdd, Nat.reduceSub, Nat.reduceLeDiff, Int.reduceLT, Int.reduceLE, Int.reduceEq, Int.reduceMod, Int.reduceDiv, reduceCtorEq, not_true_eq_false, not_false_eq_true]) | refine vIfE_of (fun _ => ?_) (fun _ => ?_) | refine vIfD_of (fun _ => ?_) (fun _ => ?_) | refine vIfQ_of (fun _ => ?_) (fun _ => ?_) | refine vIfV_of (fun _ => ?_) (fun _ => ?_) | refine And.intro (by omega) ?_ | refine drawn_q ?_ | fail)
      refine (blocks_c _ (cat ds ++ bh) w5 hz.sl (by simp; omega)).mono ?_
      rintro _ w6 ⟨⟨pq, rfl, hpq⟩, hl6⟩
      have hl36 := hl5.trans hl6
      rw [blks_cat ds bh (fun x hx => by have := hds x hx; omega)] at hpq ⊢
      dsimp only at hpq ⊢
      have hbl2 := blks_le _ bh rfl
      have hlen : (ds ++ (blks bh).1).length = ds.length + (blks bh).1.length := List.length_append
      have hpre : ∀ o c, LL w6 (.slice o (ds ++ (blks bh).1).length c) (ds ++ (blks bh).1) → LL w6 (.slice o ds.length c) ds := by
        intro o c h
        have := h.pre (k := ds.length) (by omega)
        rwa [List.take_left] at this
      obtain ⟨oq, cq, rfl, hcq, hcq2⟩ := hpq.slice
      have hpp := hpre _ _ hpq
      generalize (blks bh).2 = NB at *
      rw [hlen] at hcq ⊢
      generalize (blks bh).1.length = LB at *
      repeat' (first | (simp (disch := omega) only [push_cast, ↓reduceIte, Nat.reduceEqDiff, Int.reduceToNat, Nat.reducePow, Int.reducePow, Int.reduceNeg, Nat.reduceMul, Int.reduceMul, Int.reduceAdd, Int.reduceSub, Nat.reduceAdd, Nat.reduceSub, Nat.reduceLeDiff, Int.reduceLT, Int.reduceLE, Int.reduceEq, Int.reduceMod, Int.reduceDiv, reduceCtorEq, not_true_eq_false, not_false_eq_true]) | refine vIfE_of (fun _ => ?_) (fun _ => ?_) | refine vIfD_of (fun _ => ?_) (fun _ => ?_) | refine vIfQ_of (fun _ => ?_) (fun _ => ?_) | refine vIfV_of (fun _ => ?_) (fun _ => ?_) | refine And.intro (by omega) ?_ | refine drawn_q ?_ | fail)
      refine (calive_c w6).mono ?_
      rintro _ w7 ⟨rfl, hl7⟩
      have hl37 := hl36.trans hl7
      repeat' (first | (simp (disch := omega) only [push_cast, ↓reduceIte, Nat.reduceEqDiff, Int.reduceToNat, Nat.reducePow, Int.reducePow, Int.reduceNeg, Nat.reduceMul, Int.reduceMul, Int.reduceAdd, Int.reduceSub, Nat.reduceAdd, Nat.reduceSub, Nat.reduceLeDiff, Int.reduceLT, Int.reduceLE, Int.reduceEq, Int.reduceMod, Int.reduceDiv, reduceCtorEq, not_true_eq_false, not_false_eq_true]) | refine vIfE_of (fun _ => ?_) (fun _ => ?_) | refine vIfD_of (fun _ => ?_) (fun _ => ?_) | refine vIfQ_of (fun _ => ?_) (fun _ => ?_) | refine vIfV_of (fun _ => ?_) (fun _ => ?_) | refine And.intro (by omega) ?_ | refine drawn_q ?_ | fail)
      refine (lsame_c _ _ ds ds w7 (hpp.later hl7) (hod3.later hl37)).mono ?_
      rintro _ w8 ⟨rfl, hl8⟩
      repeat' (first | (simp (disch := omega) only [push_cast, ↓reduceIte, Nat.reduceEqDiff, Int.reduceToNat, Nat.reducePow, Int.reducePow, Int.reduceNeg, Nat.reduceMul, Int.reduceMul, Int.reduceAdd, Int.reduceSub, Nat.reduceAdd, Nat.reduceSub, Nat.reduceLeDiff, Int.reduceLT, Int.reduceLE, Int.reduceEq, Int.reduceMod, Int.reduceDiv, reduceCtorEq, not_true_eq_false, not_false_eq_true, decide_true]) | refine vIfE_of (fun _ => ?_) (fun _ => ?_) | refine vIfD_of (fun _ => ?_) (fun _ => ?_) | refine vIfQ_of (fun _ => ?_) (fun _ => ?_) | refine vIfV_of (fun _ => ?_) (fun _ => ?_) | refine And.intro (by omega) ?_ | refine drawn_q ?_ | fail)
      exact (hl13.trans hl37).trans hl8
theorem own : ownKnob Try.prog.godebug = none := by kernel_rfl
theorem lifted (os : Os) (started : os.Started) (H : Type) (enc : TypeId × Value → H) :
    ReturnsInHanded {} Try.checked os 12 .any (Rows.checkBackSpec.pre6 enc Try.prog Try.f12 Rows.checkBackRow.domain false) (Rows.checkBackSpec.post enc Try.prog Try.f12 false true false false) := by
  refine lifted_later (C := Try.checked) own started (by kernel_rfl) Try.func12 hb12
    (ChangeSpec.witness6 (enc := enc) (C := Try.checked) false ⟨#[], #[.slice none 0 0, .slice none 0 0], []⟩ 12 (by kernel_rfl) (by kernel_rfl) (by kernel_rfl) (by kernel_rfl))
    (by kernel_rfl) (list_all (by kernel_rfl)) (by kernel_rfl) Try.underlying4 rfl ?_ ?_
  · intro ds h
    have h : ds.length = 2 := h
    match ds, h with
    | [_, _], _ => rfl
  · intro W base args ds p hval0 hA0
    have hval : ∀ (j : Nat) t v, Try.f12.params[j]? = some t → args[j]? = some v → Value.okWide Try.prog W .any base t v := hval0
    have hA : DataW.TrodAll enc Try.prog W 0 (fun _ => true) true Try.f12.params.toList args.toList ds p := hA0
    rw [Try.params12] at hA hval
    obtain ⟨v0, vs0, d0, ds0, p0, q0, hargs, rfl, rfl, h0, r0⟩ := trodAll_cons hA
    obtain ⟨v1, vs1, d1, ds1, p1, q1, rfl, rfl, rfl, h1, r1⟩ := trodAll_cons r0
    obtain ⟨rfl, rfl, rfl⟩ := trodAll_nil r1
    obtain rfl : args = #[v0, v1] := by cases args; simp_all
    obtain ⟨a0, w0⟩ := open_u8ss Try.underlying51 Try.underlying24 Try.underlying5 (by kernel_rfl) (by kernel_rfl) (hval 0 51 v0 rfl rfl) h0
    obtain ⟨a1, w1⟩ := open_u8s Try.underlying24 Try.underlying5 (by kernel_rfl) (hval 1 24 v1 rfl rfl) h1
    exact law_c v0 v1 a0 a1 W w0 w1
theorem over : Rows.checkBackRow.holds Try.pinned (OpenSpec.ofChange Rows.checkBackSpec) :=
  OpenClaim.holds_of_wide 12 Try.f12 rfl rfl rfl rfl rfl rfl rfl ⟨rfl, rfl, rfl, rfl, rfl⟩ rfl rfl rfl rfl rfl (by kernel_rfl) Try.func12 (by kernel_rfl)
    (of_decide_eq_true (by kernel_rfl)) (by unfold Func.isWrapper; first | (rw [if_pos (by decide +kernel)]; kernel_rfl) | (rw [if_neg (by decide +kernel)]; exact ⟨rfl, rfl⟩))
    (fun os started H enc _ => lifted os started H enc)
/-- The statement. -/
theorem proved : Rows.CheckBackSaid :=
  over
end Go.Proofs.Ytkchefbnamiikaa.checkBack
