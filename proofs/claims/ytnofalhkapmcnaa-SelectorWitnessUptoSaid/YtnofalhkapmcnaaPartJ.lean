/- The live question of the selector: it is answered. -/
import Derived.Test.YtnofalhkapmcnaaRows
import Derived.Deep.CondSized
import Derived.Test.YtnofalhkapmcnaaPartI
set_option linter.all false
open Nat renaming reduceEqDiff → zA, reducePow → zB, reduceMul → zC, reduceAdd → zD, reduceSub → zE, reduceLeDiff → zF
open Int renaming reduceToNat → zG, reducePow → zH, reduceNeg → zI, reduceMul → zJ, reduceAdd → zK, reduceSub → zL, reduceLT → zM, reduceLE → zN, reduceEq → zO, reduceMod → zP, reduceDiv → zQ
section
set_option linter.unusedSimpArgs false
namespace Go.Proofs.Ytnofalhkapmcnaa
open Go.Vc Go.Key Go.Bkt
set_option maxRecDepth 100000
theorem mdC_one {m : MD} {w : World} (h : m.Ok w) : ∀ u ∈ mdC m, u.oneCell' = true := by
  obtain ⟨o1, c1, h1⟩ := Sl.slice h.dv
  obtain ⟨o2, c2, h2⟩ := Sl.slice h.mv
  obtain ⟨o3, c3, h3, _⟩ := RecS.slice h.p.tv
  obtain ⟨o4, c4, h4, _⟩ := RecS.slice h.p.pv
  obtain ⟨o5, c5, h5⟩ := Sl.slice h.ev
  obtain ⟨o6, c6, h6⟩ := Sl.slice h.sv
  obtain ⟨o7, c7, h7, _⟩ := RecS.slice h.fv
  intro u hu
  simp only [mdC, List.mem_cons, List.not_mem_nil, or_false] at hu
  rcases hu with rfl | rfl | rfl | rfl | rfl | rfl | rfl | rfl | rfl | rfl | rfl | rfl <;> first | rfl | (rw [h1]; rfl) | (rw [h2]; rfl) | (rw [h3]; rfl) | (rw [h4]; rfl) | (rw [h5]; rfl) | (rw [h6]; rfl) | (rw [h7]; rfl)
def liveQ (tv bv : Value) (bl : List ByteArray) : QD := ⟨tv, [⟨0, ⟨#[]⟩⟩], 20, 60, 10, bv, bl, .mk 0 ⟨#[]⟩ ⟨#[]⟩ (.slice none 0 0) [], .slice none 0 0, [], 0, 0⟩
theorem liveQ_ok {w : World} {tv bv : Value} {bl : List ByteArray} (ht : RecS tdC 2 w tv [⟨0, ⟨#[]⟩⟩]) (hb : StS w bv bl) (hz : ∀ s ∈ bl, s.size ≤ Bz) : (liveQ tv bv bl).Ok w := by
  refine ⟨ht, ?_, iq 20, iq 60, iq 10, hb, hz, FT.ok_iff.2 ⟨iq 0, (show (⟨#[]⟩ : ByteArray).size ≤ 140737488351232 by decide), (show (⟨#[]⟩ : ByteArray).size ≤ 140737488351232 by decide), RecS.nil w, by simp [FT.kids, liveQ]⟩, RecS.nil w, by simp [liveQ], iq 0, iq 0⟩
  intro t ht
  rw [List.mem_singleton.1 ht]
  exact ⟨iq 0, by decide⟩
theorem liveQ_in {tv bv : Value} {bl : List ByteArray} (hb : bl.length ≤ 10) : QIn [tA, tB] (liveQ tv bv bl) := ⟨(show (1 : Nat) ≤ 1000000 by decide), by show bl.length ≤ 1000; omega, by decide, .inr (by show Rt 10; unfold Rt; omega)⟩
theorem live1 (tv pv d1 d2 d3 qv bv : Value) (hz : Int) : chooseR (elB [tA, tB] ⟨tv, [⟨0, 1, d1, [tA, tB]⟩, ⟨20, 10, d2, [tA]⟩], pv, [⟨0, 5, d3, []⟩], hz⟩ (liveQ qv bv [])) (bestS [tA, tB] ⟨tv, [⟨0, 1, d1, [tA, tB]⟩, ⟨20, 10, d2, [tA]⟩], pv, [⟨0, 5, d3, []⟩], hz⟩ (liveQ qv bv []) [⟨⟨#[115]⟩, 0, -1, 9⟩, ⟨⟨#[116]⟩, 0, 0, 4⟩]) (strL 20 60 [40, 0] 2) = ([⟨40, 60, 0, 0, 4⟩, ⟨20, 40, 1, -1, 0⟩], -1, 0) := by kernel_rfl
theorem live2 (tv pv d1 d2 d3 qv bv : Value) (hz : Int) : chooseR (elB [tA, tB] ⟨tv, [⟨0, 1, d1, [tA, tB]⟩, ⟨20, 10, d2, [tA]⟩], pv, [⟨0, 5, d3, []⟩], hz⟩ (liveQ qv bv [tB])) (bestS [tA, tB] ⟨tv, [⟨0, 1, d1, [tA, tB]⟩, ⟨20, 10, d2, [tA]⟩], pv, [⟨0, 5, d3, []⟩], hz⟩ (liveQ qv bv [tB]) [⟨⟨#[115]⟩, 0, -1, 9⟩, ⟨⟨#[116]⟩, 0, 0, 4⟩]) (strL 20 60 [40, 0] 2) = ([], 1, 261) := by kernel_rfl
set_option maxHeartbeats 2000000 in
theorem alive26_c (w : World) : FnC Try.prog 11 #[] w fun v w' => v = .bool true ∧ Later w w' := by
  refine enter11 ?_
  unfold B11
  repeat' (first | (simp (disch := omega) only [push_cast, ↓reduceIte, zA, zG, zB, zH, zI, zC, zJ, zK, zL, zD, zE, zF, zM, zN, zO, zP, zQ, reduceCtorEq, not_true_eq_false, not_false_eq_true]) | (first | refine iE ?_ ?_ | refine iD ?_ ?_ | refine iQ ?_ ?_ | refine iV ?_ ?_) <;> intro _ | refine And.intro (by omega) ?_ | fail)
  refine (store_c w).mono ?_
  rintro _ wa ⟨⟨m, rfl, hS⟩, la⟩
  repeat' (first | (simp (disch := omega) only [push_cast, ↓reduceIte, zA, zG, zB, zH, zI, zC, zJ, zK, zL, zD, zE, zF, zM, zN, zO, zP, zQ, reduceCtorEq, not_true_eq_false, not_false_eq_true]) | (first | refine iE ?_ ?_ | refine iD ?_ ?_ | refine iQ ?_ ?_ | refine iV ?_ ?_) <;> intro _ | refine And.intro (by omega) ?_ | fail)
  refine vStore_new rfl rfl (fun u hu => mdC_one hS.ok u (by simpa using hu)) ?_
  have lb := later_alloc wa (.cells (mdC m).toArray 34)
  have Bb := Blk.new wa (mdC m).toArray 34
  generalize wa.alloc (.cells (mdC m).toArray 34) = wb at *
  generalize wa.heap.size = kb at *
  repeat' (first | (simp (disch := omega) only [push_cast, ↓reduceIte, zA, zG, zB, zH, zI, zC, zJ, zK, zL, zD, zE, zF, zM, zN, zO, zP, zQ, reduceCtorEq, not_true_eq_false, not_false_eq_true]) | (first | refine iE ?_ ?_ | refine iD ?_ ?_ | refine iQ ?_ ?_ | refine iV ?_ ?_) <;> intro _ | refine And.intro (by omega) ?_ | fail)
  have lc := later_alloc wb (.cells #[.int .i64 0, .string ⟨#[]⟩] 63)
  have Sc : RecS tdC 2 (wb.alloc (.cells #[.int .i64 0, .string ⟨#[]⟩] 63)) (.slice (some ⟨wb.heap.size, 0, none⟩) 1 1) [⟨0, ⟨#[]⟩⟩] := SlN.lit wb [.int .i64 0, .string ⟨#[]⟩] _ 2 1 rfl (by unfold maxLen; omega)
  generalize wb.alloc (.cells #[.int .i64 0, .string ⟨#[]⟩] 63) = wc at *
  generalize wb.heap.size = kc at *
  refine vStore_new rfl rfl (by intro u hu; simp at hu; rcases hu with rfl | rfl | rfl | rfl | rfl | rfl | rfl | rfl | rfl | rfl | rfl | rfl <;> rfl) ?_
  have ld := later_alloc wc (.cells (qdC (liveQ (.slice (some ⟨kc, 0, none⟩) 1 1) (.slice none 0 0) [])).toArray 42)
  have Bd := Blk.new wc (qdC (liveQ (.slice (some ⟨kc, 0, none⟩) 1 1) (.slice none 0 0) [])).toArray 42
  have eq1 : (qdC (liveQ (.slice (some ⟨kc, 0, none⟩) 1 1) (.slice none 0 0) [])).toArray = #[.slice (some ⟨kc, 0, none⟩) 1 1, .int .i64 20, .int .i64 60, .int .i64 10, .slice none 0 0, .int .i64 0, .string ⟨#[]⟩, .string ⟨#[]⟩, .slice none 0 0, .slice none 0 0, .int .i64 0, .int .i64 0] := rfl
  have hq1 : (liveQ (.slice (some ⟨kc, 0, none⟩) 1 1) (.slice none 0 0) []).Ok wc := liveQ_ok Sc (Sl.nil wc) (by simp)
  rw [← eq1]
  generalize wc.alloc (.cells (qdC (liveQ (.slice (some ⟨kc, 0, none⟩) 1 1) (.slice none 0 0) [])).toArray 42) = wd at *
  generalize wc.heap.size = kd at *
  have lad := lb.trans (lc.trans ld)
  have lbd := lc.trans ld
  have l0d := la.trans lad
  have hm := hS.ok
  have FF : ∀ w', Later wb w' → cellsAt w' ⟨kb, 0, none⟩ 2 = some [m.dv, m.mv] ∧ cellsAt w' ⟨kb, 2, none⟩ 3 = some (pdC m.p) ∧ w'.cell? ⟨kb, 6, none⟩ = some m.ev ∧ w'.cell? ⟨kb, 9, none⟩ = some m.fv := by
    intro w' hl
    have B := mdLater Bb hl
    obtain ⟨h0, h1, h3, _, h5, _, _, h8, _⟩ := mdAt B
    refine ⟨?_, h3, h5, h8⟩
    refine cellsAt_of 2 _ _ rfl fun i x hx => ?_
    rw [addr_add_eq]
    match i, hx with
    | 0, hx => cases hx; exact h0
    | 1, hx => cases hx; exact h1
    | n + 2, hx => exact absurd hx (by simp)
  have fd : cellsAt wd ⟨kd, 0, none⟩ 12 = some (qdC (liveQ (.slice (some ⟨kc, 0, none⟩) 1 1) (.slice none 0 0) [])) := Blk.cellsAt (l := qdC (liveQ (.slice (some ⟨kc, 0, none⟩) 1 1) (.slice none 0 0) [])) Bd
  obtain ⟨f1, f2, f3, f4⟩ := FF wd lbd
  have hsc : ∀ w', Later wa w' → ScIs w' m.dv m.mv m.dl m.ml := fun w' hl => ⟨Sl.later hm.dv hl, Sl.later hm.mv hl, bz_le hm.dl, bz_le hm.ml⟩
  obtain ⟨d1, d2, htl⟩ := hS.tl
  obtain ⟨d3, hpl⟩ := hS.pl
  have hpe : m.p = ⟨m.p.tv, [⟨0, 1, d1, [tA, tB]⟩, ⟨20, 10, d2, [tA]⟩], m.p.pv, [⟨0, 5, d3, []⟩], m.p.hz⟩ := by rw [← htl, ← hpl]
  have hfall : Fall m.el := by
    rw [hS.el]
    intro i hi
    have : i = 0 := by simp at hi; omega
    subst this; decide
  have hel : m.el.length = m.p.tl.length := by rw [hS.el, htl]; rfl
  have hfp : ∀ f ∈ m.fl, -1 ≤ f.proj ∧ f.proj < (m.p.pl.length : Int) := by
    rw [hS.fl, hpl]
    intro f hf
    simp only [List.mem_cons, List.not_mem_nil, or_false] at hf
    rcases hf with rfl | rfl
    · exact ⟨by decide, by show (-1 : Int) < 1; decide⟩
    · exact ⟨by decide, by show (0 : Int) < 1; decide⟩
  have htl2 : m.p.tl.length = 2 := by rw [htl]; rfl
  have hfl2 : m.fl.length = 2 := by rw [hS.fl]; rfl
  repeat' (first | (simp (disch := omega) only [push_cast, ↓reduceIte, zA, zG, zB, zH, zI, zC, zJ, zK, zL, zD, zE, zF, zM, zN, zO, zP, zQ, reduceCtorEq, not_true_eq_false, not_false_eq_true, f1, f2, f3, f4, fd, addr_add_eq, Nat.zero_add]) | (first | refine iE ?_ ?_ | refine iD ?_ ?_ | refine iQ ?_ ?_ | refine iV ?_ ?_) <;> intro _ | refine And.intro (by omega) ?_ | fail)
  refine (choose_c m.dv m.mv m.dl m.ml m.p m.ev m.el (liveQ (.slice (some ⟨kc, 0, none⟩) 1 1) (.slice none 0 0) []) m.fv m.fl wd (hsc wd lad) (hm.p.later lad) (Sl.later hm.ev lad) hm.el (hq1.later ld) (hm.fv.later lad) hm.fl hel hfall (by omega) (by rw [hS.dl]; exact liveQ_in (by simp)) (by omega) hfp).mono ?_
  rintro _ we ⟨⟨lv, rfl, hlv⟩, le⟩
  have hr1 : chooseR (elB m.dl m.p (liveQ (.slice (some ⟨kc, 0, none⟩) 1 1) (.slice none 0 0) [])) (bestS m.dl m.p (liveQ (.slice (some ⟨kc, 0, none⟩) 1 1) (.slice none 0 0) []) m.fl) (strL (liveQ (.slice (some ⟨kc, 0, none⟩) 1 1) (.slice none 0 0) []).fr (liveQ (.slice (some ⟨kc, 0, none⟩) 1 1) (.slice none 0 0) []).to m.el m.p.tl.length) = ([⟨40, 60, 0, 0, 4⟩, ⟨20, 40, 1, -1, 0⟩], -1, 0) := by
    rw [hS.dl, hS.fl, htl2, hS.el, hpe]
    exact live1 _ _ _ _ _ _ _ _
  rw [hr1] at hlv
  have lae := lad.trans le
  have lbe := lbd.trans le
  have fe := cellsAt_later le 12 fd
  repeat' (first | (simp (disch := omega) only [push_cast, ↓reduceIte, zA, zG, zB, zH, zI, zC, zJ, zK, zL, zD, zE, zF, zM, zN, zO, zP, zQ, reduceCtorEq, not_true_eq_false, not_false_eq_true, hr1, fe]) | (first | refine iE ?_ ?_ | refine iD ?_ ?_ | refine iQ ?_ ?_ | refine iV ?_ ?_) <;> intro _ | refine And.intro (by omega) ?_ | fail)
  refine vStore_new rfl rfl (by intro u hu; rw [eq1] at hu; simp at hu; rcases hu with rfl | rfl | rfl | rfl | rfl | rfl | rfl | rfl | rfl | rfl | rfl | rfl <;> rfl) ?_
  have lf := later_alloc we (.cells (qdC (liveQ (.slice (some ⟨kc, 0, none⟩) 1 1) (.slice none 0 0) [])).toArray 42)
  have Bf := Blk.new we (qdC (liveQ (.slice (some ⟨kc, 0, none⟩) 1 1) (.slice none 0 0) [])).toArray 42
  generalize we.alloc (.cells (qdC (liveQ (.slice (some ⟨kc, 0, none⟩) 1 1) (.slice none 0 0) [])).toArray 42) = wf at *
  have zf := lae.size
  generalize hkf : we.heap.size = kf at *
  have lg := later_alloc wf (.cells #[.string ⟨#[98]⟩] 9)
  have Sg : StS (wf.alloc (.cells #[.string ⟨#[98]⟩] 9)) (.slice (some ⟨wf.heap.size, 0, none⟩) 1 1) [tB] := Sl.lit wf [.string ⟨#[98]⟩] 9 (by unfold maxLen; simp)
  repeat' (first | (simp (disch := omega) only [push_cast, ↓reduceIte, zA, zG, zB, zH, zI, zC, zJ, zK, zL, zD, zE, zF, zM, zN, zO, zP, zQ, reduceCtorEq, not_true_eq_false, not_false_eq_true, addr_add_eq, Nat.zero_add]) | (first | refine iE ?_ ?_ | refine iD ?_ ?_ | refine iQ ?_ ?_ | refine iV ?_ ?_) <;> intro _ | refine And.intro (by omega) ?_ | fail)
  have Bg := Bf.chg (Chg.of_later (ks := []) lg) (by simp)
  generalize wf.alloc (.cells #[.string ⟨#[98]⟩] 9) = wg at *
  have zg := Bf.lt
  generalize wf.heap.size = kg at *
  have g4 : wg.cell? ⟨kf, 4, none⟩ = some (.slice none 0 0) := Bg.cell 4
  have fz := Bg.frozen 4
  have Bh := Bg.set 4 (.slice (some ⟨kg, 0, none⟩) 1 1)
  have ch : Chg wg (wg.setCell ⟨kf, 4, none⟩ (.slice (some ⟨kg, 0, none⟩) 1 1)) [kf] := chg_setCell wg (by simp) _
  have Bh : Blk (wg.setCell ⟨kf, 4, none⟩ (.slice (some ⟨kg, 0, none⟩) 1 1)) kf (qdC (liveQ (.slice (some ⟨kc, 0, none⟩) 1 1) (.slice (some ⟨kg, 0, none⟩) 1 1) [tB])).toArray 42 := Bh
  repeat' (first | (simp (disch := omega) only [push_cast, ↓reduceIte, zA, zG, zB, zH, zI, zC, zJ, zK, zL, zD, zE, zF, zM, zN, zO, zP, zQ, reduceCtorEq, not_true_eq_false, not_false_eq_true, g4, fz, addr_add_eq, Nat.zero_add]) | (first | refine iE ?_ ?_ | refine iD ?_ ?_ | refine iQ ?_ ?_ | refine iV ?_ ?_) <;> intro _ | refine And.intro (by omega) ?_ | fail)
  generalize wg.setCell ⟨kf, 4, none⟩ (.slice (some ⟨kg, 0, none⟩) 1 1) = wh at *
  have leh : Later we wh := Chg.later (lf.trans lg) ch (by intro j hj; rw [List.mem_singleton.1 hj, hkf]; exact Nat.le_refl _)
  have lah := lae.trans leh
  have lbh := lbe.trans leh
  have hcn : kg ≠ kf := by
    intro h
    rw [h] at Sg
    have hc : wg.cell? ⟨kf, 0, none⟩ = some (.string tB) := Sl.at Sg (i := 0) rfl
    have hc2 : wg.cell? ⟨kf, 0, none⟩ = some (.slice (some ⟨kc, 0, none⟩) 1 1) := Bg.cell 0
    rw [hc2] at hc
    cases hc
  have Sh : StS wh (.slice (some ⟨kg, 0, none⟩) 1 1) [tB] := Sl.chg Sg ch (by simpa using hcn) (by simp [inB])
  have hq2 : (liveQ (.slice (some ⟨kc, 0, none⟩) 1 1) (.slice (some ⟨kg, 0, none⟩) 1 1) [tB]).Ok wh := liveQ_ok (RecS.later Sc (ld.trans (le.trans leh))) Sh (by intro s hs; rw [List.mem_singleton.1 hs]; decide)
  have fh : cellsAt wh ⟨kf, 0, none⟩ 12 = some (qdC (liveQ (.slice (some ⟨kc, 0, none⟩) 1 1) (.slice (some ⟨kg, 0, none⟩) 1 1) [tB])) := Blk.cellsAt (l := qdC (liveQ (.slice (some ⟨kc, 0, none⟩) 1 1) (.slice (some ⟨kg, 0, none⟩) 1 1) [tB])) Bh
  obtain ⟨f1, f2, f3, f4⟩ := FF wh lbh
  repeat' (first | (simp (disch := omega) only [push_cast, ↓reduceIte, zA, zG, zB, zH, zI, zC, zJ, zK, zL, zD, zE, zF, zM, zN, zO, zP, zQ, reduceCtorEq, not_true_eq_false, not_false_eq_true, f1, f2, f3, f4, fh, addr_add_eq, Nat.zero_add]) | (first | refine iE ?_ ?_ | refine iD ?_ ?_ | refine iQ ?_ ?_ | refine iV ?_ ?_) <;> intro _ | refine And.intro (by omega) ?_ | fail)
  refine (choose_c m.dv m.mv m.dl m.ml m.p m.ev m.el (liveQ (.slice (some ⟨kc, 0, none⟩) 1 1) (.slice (some ⟨kg, 0, none⟩) 1 1) [tB]) m.fv m.fl wh (hsc wh lah) (hm.p.later lah) (Sl.later hm.ev lah) hm.el hq2 (hm.fv.later lah) hm.fl hel hfall (by omega) (by rw [hS.dl]; exact liveQ_in (by simp)) (by omega) hfp).mono ?_
  rintro _ wi ⟨⟨lv2, rfl, hlv2⟩, li⟩
  have hr2 : chooseR (elB m.dl m.p (liveQ (.slice (some ⟨kc, 0, none⟩) 1 1) (.slice (some ⟨kg, 0, none⟩) 1 1) [tB])) (bestS m.dl m.p (liveQ (.slice (some ⟨kc, 0, none⟩) 1 1) (.slice (some ⟨kg, 0, none⟩) 1 1) [tB]) m.fl) (strL (liveQ (.slice (some ⟨kc, 0, none⟩) 1 1) (.slice (some ⟨kg, 0, none⟩) 1 1) [tB]).fr (liveQ (.slice (some ⟨kc, 0, none⟩) 1 1) (.slice (some ⟨kg, 0, none⟩) 1 1) [tB]).to m.el m.p.tl.length) = ([], 1, 261) := by
    rw [hS.dl, hS.fl, htl2, hS.el, hpe]
    exact live2 _ _ _ _ _ _ _ _
  have hlv3 := hlv.later (leh.trans li)
  obtain ⟨lo, lc', hlo, _⟩ := RecS.slice hlv3
  have hlo : lv = .slice lo 2 lc' := hlo
  rw [hlo] at hlv3
  obtain ⟨a0, rfl, p0⟩ := RecS.at pnC_len hlv3 (i := 0) (by simp)
  have p1 := RecS.get pnC_len hlv3 (i := 1) (by simp)
  rw [Nat.zero_mul, addr_add_zero, List.getElem_cons_zero] at p0
  rw [List.getElem_cons_succ, List.getElem_cons_zero] at p1
  have t1 : ((1 : Int)).toNat * 5 = 1 * 5 := rfl
  repeat' (first | (simp (disch := omega) only [push_cast, ↓reduceIte, zA, zG, zB, zH, zI, zC, zJ, zK, zL, zD, zE, zF, zM, zN, zO, zP, zQ, reduceCtorEq, not_true_eq_false, not_false_eq_true, hr2, hlo, p0, p1, addr_add_zero]) | (first | refine iE ?_ ?_ | refine iD ?_ ?_ | refine iQ ?_ ?_ | refine iV ?_ ?_) <;> intro _ | refine And.intro (by omega) ?_ | fail)
  refine vBin_pn _ _ ⟨40, 60, 0, 0, 4⟩ ⟨40, 60, 0, 0, 4⟩ ?_
  repeat' (first | (simp (disch := omega) only [push_cast, ↓reduceIte, zA, zG, zB, zH, zI, zC, zJ, zK, zL, zD, zE, zF, zM, zN, zO, zP, zQ, reduceCtorEq, not_true_eq_false, not_false_eq_true, hr2, hlo, p0, p1, addr_add_zero, decide_true]) | (first | refine iE ?_ ?_ | refine iD ?_ ?_ | refine iQ ?_ ?_ | refine iV ?_ ?_) <;> intro _ | refine And.intro (by omega) ?_ | fail)
  refine vBin_pn _ _ ⟨20, 40, 1, -1, 0⟩ ⟨20, 40, 1, -1, 0⟩ ?_
  repeat' (first | (simp (disch := omega) only [push_cast, ↓reduceIte, zA, zG, zB, zH, zI, zC, zJ, zK, zL, zD, zE, zF, zM, zN, zO, zP, zQ, reduceCtorEq, not_true_eq_false, not_false_eq_true, hr2, hlo, decide_true]) | (first | refine iE ?_ ?_ | refine iD ?_ ?_ | refine iQ ?_ ?_ | refine iV ?_ ?_) <;> intro _ | refine And.intro (by omega) ?_ | refine drawn_q ?_ | fail)
  first | exact ⟨rfl, (la.trans (lah.trans li))⟩ | exact (la.trans (lah.trans li))
end Go.Proofs.Ytnofalhkapmcnaa
end
section
namespace Go.Proofs.Ytnofalhkapmcnaa
open Go.Vc Go.Key Go.RowKit Go.ChangeShapes
set_option maxRecDepth 100000
theorem part_le {H : Type} {d : DataW H} : ∀ {l : List (DataW H)}, d ∈ l → Rows.uptoBulk d ≤ Rows.uptoBulkAll l
  | [], h => by cases h
  | x :: r, h => by
    simp only [Rows.uptoBulkAll]
    rcases List.mem_cons.1 h with e | e
    · subst e; omega
    · have := part_le e; omega
theorem one_le {H : Type} (d : DataW H) : 1 ≤ Rows.uptoBulk d := by
  cases d with
  | lit l => cases l <;> simp [Rows.uptoBulk]
  | _ => simp [Rows.uptoBulk]
theorem length_le {H : Type} : ∀ (l : List (DataW H)), l.length ≤ Rows.uptoBulkAll l
  | [] => by simp [Rows.uptoBulkAll]
  | x :: r => by have := one_le x; have := length_le r; simp only [Rows.uptoBulkAll, List.length_cons]; omega
theorem bulk_app {H : Type} : ∀ (l r : List (DataW H)), Rows.uptoBulkAll (l ++ r) = Rows.uptoBulkAll l + Rows.uptoBulkAll r
  | [], r => by simp [Rows.uptoBulkAll]
  | x :: l, r => by simp only [List.cons_append, Rows.uptoBulkAll, bulk_app l r]; omega
section
variable {H : Type} {enc : TypeId × Value → H} {w : World} {sp : Nat → Bool} {hd : Bool}
/-- A slice's length. -/
theorem bulk_slice {t e : TypeId} {m n c : Nat} {o : Option Addr} {y : DataW H × List MemPlace} (ht : Try.prog.underlying t = some (.slice e)) (hy : DataW.trod enc Try.prog w 0 sp hd m t [.slice o n c] = some y) (ho : o = none → n = 0) : n ≤ Rows.uptoBulk y.1 := by
  rcases DataW.trod_slice ht hy with ⟨h0, _⟩ | ⟨a, len, cap, elems, rest, k, hmn, hv, hyx, _, hl, hmx, hlen, hel, _⟩
  · have h0 := (List.cons.inj h0).1
    simp only [Value.slice.injEq] at h0
    omega
  · have hv := (List.cons.inj hv).1
    simp only [Value.slice.injEq] at hv
    rw [hyx]
    simp only [Rows.uptoBulk]
    have := length_le (elems.map (·.1))
    rw [List.length_map] at this
    omega
/-- The lists of a schema. -/
theorem bulk_schema {m : Nat} {dv mv : Value} {d ml : List ByteArray} {y : DataW H × List MemPlace} (hy : DataW.trod enc Try.prog w 0 sp hd m 24 [dv, mv] = some y) (hd' : StS w dv d) (hm : StS w mv ml) : d.length ≤ Rows.uptoBulk y.1 ∧ ml.length ≤ Rows.uptoBulk y.1 := by
  obtain ⟨o1, c1, rfl, _, _, _, g1⟩ := hd'.openM
  obtain ⟨o2, c2, rfl, _, _, _, g2⟩ := hm.openM
  obtain ⟨xs, n, _, hyx, hl, hxl, hf⟩ := DataW.trod_struct Try.underlying24 hy
  have h0 := hf 0 _ rfl
  have h1 := hf 1 _ rfl
  have hxl2 : xs.length = 2 := hxl
  match xs, hxl2 with
  | [x0, x1], _ =>
    rw [hyx]
    simp only [Rows.uptoBulk, Rows.uptoBulkAll, List.map_cons, List.map_nil]
    have e0 := bulk_slice (n := d.length) (c := c1) (o := o1) Try.underlying22 h0 (fun h => by rw [(g1 h).1]; rfl)
    have e1 := bulk_slice (n := ml.length) (c := c2) (o := o2) Try.underlying22 h1 (fun h => by rw [(g2 h).1]; rfl)
    have e0 : d.length ≤ Rows.uptoBulk x0.1 := e0
    have e1 : ml.length ≤ Rows.uptoBulk x1.1 := e1
    omega
theorem bulk_manifest {v : Value} {d : DataW H} {ps : List MemPlace} {m : MD} (h : DataW.Trod enc Try.prog w 0 sp hd 34 v d ps) (hv : v = .agg (mdC m).toArray) (hm : m.Ok w) : m.dl.length ≤ Rows.uptoBulk d ∧ m.ml.length ≤ Rows.uptoBulk d := by
  obtain ⟨fuel, h⟩ := h
  subst hv
  have h : DataW.trod enc Try.prog w 0 sp hd fuel 34 (mdC m) = some (d, ps) := h
  obtain ⟨xs, n, _, hyx, hl, hxl, hf⟩ := DataW.trod_struct Try.underlying34 h
  have h0 := hf 0 _ rfl
  have hlt : 0 < xs.length := by rw [hxl]; decide
  rw [List.getElem?_eq_getElem hlt] at h0
  have h0 : DataW.trod enc Try.prog w 0 sp hd n 24 [m.dv, m.mv] = some xs[0] := h0
  obtain ⟨e0, e1⟩ := bulk_schema h0 hm.dv hm.mv
  have hd : d = .agg (xs.map (·.1)) := congrArg Prod.fst hyx
  have hp := part_le (List.mem_map_of_mem (f := (·.1)) (List.getElem_mem hlt))
  rw [hd]
  simp only [Rows.uptoBulk]
  omega
end
/-- The row's step, with both bounds. -/
theorem lifted_laterU {os : Os} {H : Type} {enc : TypeId × Value → H} {fid : FuncId} {f : Func} {s : ChangeSpec} {conds : List PathCond} {tb : TypeId} {F : Stop.Interp}
    (own : ownKnob Try.checked.prog.godebug = none) (started : os.Started) (noInit : Try.checked.prog.inits.idxOf? fid = none) (hf : Try.checked.prog.funcs[fid]? = some f) (hb : HasBody Try.checked.prog fid)
    (witness : ∃ (w : World) (tape : Tape) (i : Input), w.os = os ∧ (w.forCall tape i).Shaped Try.checked.prog ∧ i.vars = [] ∧ Input.okWide Try.checked.prog (w.forCall tape i) .any w.heap.size fid i ∧
      (Rows.OpenSpec.upto s).pre6 enc Try.checked.prog f conds false (w.forCall tape i).memory i.args ∧ ({} : Assume).holds Try.checked.prog (lone (Frame.enter Try.checked.prog fid i.args .normal) [] (w.forCall tape i)))
    (hl : laidOutB Try.checked.prog = true) (hts : ∀ t ∈ f.params.toList, Try.checked.prog.readableRec t = true ∧ t < Try.checked.prog.types.size) (hr : f.resultTypes = #[tb]) (htb : Try.checked.prog.underlying tb = some .bool)
    (hv : s.vars = []) (hfn : ∀ ds : List (DataW H), ds.length = f.params.toList.length → s.fn H ds = { results := [.lit (.bool true)], args := ds })
    (walk : ∀ (W : World) (base : Nat) (args : Array Value) (ds : List (DataW H)) (p : List MemPlace), (∀ (j : Nat) t v, f.params[j]? = some t → args[j]? = some v → Value.okWide Try.checked.prog W .any base t v) →
      (∀ (j : Nat) t d, f.params.toList[j]? = some t → ds[j]? = some d → Sz Try.checked.prog t d) → Rows.uptoBulkAll ds ≤ 1048576 →
      DataW.TrodAll enc Try.checked.prog W 0 (fun _ => true) true f.params.toList args.toList ds p → FnC Try.checked.prog fid args W fun v w' => v = .bool true ∧ Later W w') :
    ReturnsInHanded {} Try.checked os fid .any ((Rows.OpenSpec.upto s).pre6 enc Try.checked.prog f conds false) (((Rows.OpenSpec.upto s).at F).post enc Try.checked.prog f false true false false) := by
  refine returnsInHanded_of_cond_sized (C := Try.checked) (s := Rows.OpenSpec.upto s) (k := Rows.uptoSmall) rfl own started noInit hf witness ?_
  intro W base args ds gs before hval hW _ hk hwt _
  have hW' := hW
  obtain ⟨p, q, hA, hV, rfl, hfz, hnd⟩ := hW
  have hz : ∀ (j : Nat) t d, f.params.toList[j]? = some t → ds[j]? = some d → Sz Try.checked.prog t d := by
    intro j t d hj hd n hn
    have h1 := (List.getElem?_eq_some_iff.1 hj).1
    have h2 := (List.getElem?_eq_some_iff.1 hd).1
    have := List.all_eq_true.1 hwt n (DataW.weights_mem_each (j := j) (by rw [List.getElem?_append_left h1]; exact hj) (by rw [List.getElem?_append_left h2]; exact hd) n hn)
    simpa using this
  have hbk : Rows.uptoBulkAll (ds ++ gs) ≤ 1048576 := of_decide_eq_true hk
  rw [bulk_app] at hbk
  have hw := walk W base args ds p hval hz (by omega) hA
  unfold FnC at hw
  rw [hb args W] at hw
  have hw : Ret Try.checked.prog fid args W fun v w' => v = .bool true ∧ Later W w' := hw
  refine hw.mono fun e w' ⟨v, he, hv', hlat⟩ => ?_
  subst hv'
  have hpost : s.post enc Try.checked.prog f false true false false W args (.bool true) w' := post_later hl hts hr htb hv (hfn ds (trodAll_ps_len hA).2) hW' hlat
  exact ⟨_, he, hpost⟩
end Go.Proofs.Ytnofalhkapmcnaa
end
section
namespace Go.Vc
end Go.Vc
namespace Go.Proofs.Ytnofalhkapmcnaa
open Go.Vc Go.Key Go.Bkt
set_option maxRecDepth 100000
theorem mdSc {w w' : World} {m : MD} (hm : m.Ok w) (hl : Later w w') : ScIs w' m.dv m.mv m.dl m.ml := ⟨Sl.later hm.dv hl, Sl.later hm.mv hl, bz_le hm.dl, bz_le hm.ml⟩
end Go.Proofs.Ytnofalhkapmcnaa
end
section
namespace Go.Vc
open Go
instance : Inhabited PN := ⟨⟨0, 0, 0, 0, 0⟩⟩
/-- Where the next stretch ends. -/
def atN (to : Int) (L : List PN) : Nat → Int
  | 0 => to
  | i + 1 => (L.getD i default).fr
structure Ch (fr to : Int) (L : List PN) (n : Nat) (low : Int) : Prop where
  to_ : ∀ i (h : i < L.length), L[i].to = atN to L i
  lt : ∀ i (h : i < L.length), L[i].fr < L[i].to
  own : ∀ i (h : i < L.length), L[i].proj = -1
  ti : ∀ i (h : i < L.length), L[i].tier < (n : Int)
  up : ∀ i j (hi : i < L.length) (hj : j < L.length), j < i → L[j].tier < L[i].tier
  emp : L.length = 0 ↔ to ≤ low
  last : 0 < L.length → atN to L L.length = low
theorem getD_app {α : Type} (l r : List α) (i : Nat) (x : α) (h : i < l.length) : (l ++ r).getD i x = l.getD i x := by
  rw [List.getD_eq_getElem?_getD, List.getD_eq_getElem?_getD, List.getElem?_append_left h]
theorem atN_app {to : Int} {L : List PN} {x : PN} {i : Nat} (h : i ≤ L.length) : atN to (L ++ [x]) i = atN to L i := by
  cases i with
  | zero => rfl
  | succ i => exact congrArg PN.fr (getD_app L [x] i default (by omega))
theorem Ch.snoc {fr to : Int} {L : List PN} {n : Nat} {low : Int} {x : PN} (h : Ch fr to L n low) (ht : x.tier = (n : Int)) (hp : x.proj = -1) (hx : x.fr < x.to) (hto : x.to = atN to L L.length) (hf : x.fr < to) : Ch fr to (L ++ [x]) (n + 1) x.fr := by
  have hl : (L ++ [x]).length = L.length + 1 := by simp
  have hg : ∀ i (h' : i < (L ++ [x]).length), (i < L.length ∧ ∃ h2 : i < L.length, (L ++ [x])[i] = L[i]) ∨ (i = L.length ∧ (L ++ [x])[i] = x) := by
    intro i h'
    by_cases hi : i < L.length
    · exact .inl ⟨hi, hi, List.getElem_append_left hi⟩
    · have : i = L.length := by omega
      subst this
      exact .inr ⟨rfl, by simp⟩
  refine ⟨fun i h' => ?_, fun i h' => ?_, fun i h' => ?_, fun i h' => ?_, fun i j hi hj hji => ?_, ?_, fun _ => ?_⟩
  · rcases hg i h' with ⟨hi, h2, e⟩ | ⟨rfl, e⟩
    · rw [e, atN_app (by omega)]; exact h.to_ i h2
    · rw [e, atN_app (by omega)]; exact hto
  · rcases hg i h' with ⟨hi, h2, e⟩ | ⟨rfl, e⟩
    · rw [e]; exact h.lt i h2
    · rw [e]; exact hx
  · rcases hg i h' with ⟨hi, h2, e⟩ | ⟨rfl, e⟩
    · rw [e]; exact h.own i h2
    · rw [e]; exact hp
  · rcases hg i h' with ⟨hi, h2, e⟩ | ⟨rfl, e⟩
    · rw [e]; have := h.ti i h2; omega
    · rw [e, ht]; omega
  · rcases hg i hi with ⟨_, h2, e⟩ | ⟨rfl, e⟩
    · rcases hg j hj with ⟨_, h3, e3⟩ | ⟨rfl, e3⟩
      · rw [e, e3]; exact h.up i j h2 h3 hji
      · omega
    · rcases hg j hj with ⟨_, h3, e3⟩ | ⟨rfl, e3⟩
      · rw [e, e3, ht]; exact h.ti j h3
      · omega
  · constructor
    · intro h0; omega
    · intro h0; omega
  · rw [hl]
    show ((L ++ [x]).getD L.length default).fr = x.fr
    rw [List.getD_eq_getElem?_getD, List.getElem?_append_right (Nat.le_refl _)]
    simp
theorem Ch.same {fr to : Int} {L : List PN} {n : Nat} {low low' : Int} (h : Ch fr to L n low) (he : L.length = 0 ↔ to ≤ low') (hl : 0 < L.length → low = low') : Ch fr to L (n + 1) low' :=
  ⟨h.to_, h.lt, h.own, fun i hi => by have := h.ti i hi; omega, h.up, he, fun h0 => by rw [h.last h0, hl h0]⟩
theorem strL_ch {fr to : Int} {el : List Int} (hft : fr < to) (hF : Fall el) : ∀ n : Nat, n + 1 ≤ el.length → Ch fr to (strL fr to el (n + 1)) (n + 1) (max fr (el.getD n 0)) := by
  intro n
  induction n with
  | zero =>
    intro hn
    rw [strL_succ]
    have e0 : strL fr to el 0 = [] := rfl
    rw [e0]
    have h0 : Ch fr to [] 0 to := ⟨fun i h => by simp at h, fun i h => by simp at h, fun i h => by simp at h, fun i h => by simp at h, fun i j h => by simp at h, ⟨fun _ => Int.le_refl _, fun _ => rfl⟩, fun h => by simp at h⟩
    have e1 : (strI fr to el 0).fr = max fr (el.getD 0 0) := rfl
    have e2 : (strI fr to el 0).to = to := rfl
    split
    · rename_i hx
      have := h0.snoc (x := strI fr to el 0) rfl rfl hx rfl (by omega)
      rw [e1] at this
      exact this
    · rename_i hx
      exact h0.same ⟨fun _ => by omega, fun _ => rfl⟩ (fun h => by simp at h)
  | succ n ih =>
    intro hn
    have h := ih (by omega)
    have hfall := hF n (by omega)
    rw [strL_succ]
    generalize strL fr to el (n + 1) = L at *
    have e1 : (strI fr to el (n + 1)).fr = max fr (el.getD (n + 1) 0) := rfl
    have e2 : (strI fr to el (n + 1)).to = min to (el.getD n 0) := rfl
    generalize hEn : el.getD n 0 = En at *
    generalize hEm : el.getD (n + 1) 0 = Em at *
    by_cases hz : L.length = 0
    · have hlow := h.emp.1 hz
      have hL : L = [] := List.length_eq_zero_iff.1 hz
      split
      · rename_i hx
        have := h.snoc (x := strI fr to el (n + 1)) rfl rfl hx (by rw [hz, e2]; show min to En = to; omega) (by omega)
        rw [e1] at this
        exact this
      · rename_i hx
        rw [List.append_nil]
        exact h.same ⟨fun _ => by omega, fun _ => hz⟩ (fun h => by omega)
    · have hlow : max fr En < to := by
        have := h.emp
        omega
      have hlast := h.last (by omega)
      split
      · rename_i hx
        have := h.snoc (x := strI fr to el (n + 1)) rfl rfl hx (by rw [hlast, e2]; omega) (by omega)
        rw [e1] at this
        exact this
      · rename_i hx
        rw [List.append_nil]
        refine h.same ⟨fun h0 => absurd h0 hz, fun h0 => ?_⟩ (fun _ => ?_)
        · omega
        · omega
end Go.Vc
namespace Go.Proofs.Ytnofalhkapmcnaa
open Go.Vc Go.Key Go.Bkt Go.Cub
end Go.Proofs.Ytnofalhkapmcnaa
end
