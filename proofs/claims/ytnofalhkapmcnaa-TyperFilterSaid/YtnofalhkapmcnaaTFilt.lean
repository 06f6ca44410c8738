/- 'TyperFilter': a typed query stays typed with its filter behind Not and in Or, not in And alone, and without it; it uses no other dimensions. -/
import Derived.Test.YtnofalhkapmcnaaRows
import Derived.Test.YtnofalhkapmcnaaPartH
set_option linter.all false
open Nat renaming reduceEqDiff → zA, reducePow → zB, reduceMul → zC, reduceAdd → zD, reduceSub → zE, reduceLeDiff → zF
open Int renaming reduceToNat → zG, reducePow → zH, reduceNeg → zI, reduceMul → zJ, reduceAdd → zK, reduceSub → zL, reduceLT → zM, reduceLE → zN, reduceEq → zO, reduceMod → zP, reduceDiv → zQ
set_option linter.unusedSimpArgs false
namespace Go.Proofs.Ytnofalhkapmcnaa.typerFilter
open Go.Vc Go.Key Go.Bkt Go.RowKit Go.ChangeShapes
set_option maxRecDepth 100000
theorem qdC_one {q : QD} {w : World} (h : q.Ok w) : ∀ u ∈ qdC q, u.oneCell' = true := by
  obtain ⟨o1, c1, h1, _⟩ := RecS.slice h.tv
  obtain ⟨o2, c2, h2⟩ := Sl.slice h.bv
  obtain ⟨o3, c3, h3, _⟩ := RecS.slice h.hv
  obtain ⟨o4, c4, h4, _⟩ := RecS.slice (FT.ok_iff.1 h.wh).2.2.2.1
  intro u hu
  simp only [qdC, List.mem_cons, List.not_mem_nil, or_false] at hu
  rcases hu with rfl | rfl | rfl | rfl | rfl | rfl | rfl | rfl | rfl | rfl | rfl | rfl <;> first | rfl | (rw [h1]; rfl) | (rw [h2]; rfl) | (rw [h3]; rfl) | (rw [h4]; rfl)
theorem bsl_f1 {K : Value → World → Prop} {w : World} (f : FT) : vBuildSlice Try.prog 37 1 #[(0, .agg (ftC f).toArray)] K w = K (.slice (some ⟨w.heap.size, 0, none⟩) 1 1) (w.alloc (.cells (ftC f).toArray 39)) := bsl37_1_Codes7U _ _ _ _
theorem bsl_f2 {K : Value → World → Prop} {w : World} (f g : FT) : vBuildSlice Try.prog 37 2 #[(0, .agg (ftC f).toArray), (1, .agg (ftC g).toArray)] K w = K (.slice (some ⟨w.heap.size, 0, none⟩) 2 2) (w.alloc (.cells (ftC f ++ ftC g).toArray 39)) := bsl37_2_Codes7U _ _ _ _ _ _ _ _
theorem rec2 {w : World} {b : Nat} {e : TypeId} {f g : FT} (h : Blk w b (ftC f ++ ftC g).toArray e) : RecS ftC 4 w (.slice (some ⟨b, 0, none⟩) 2 2) [f, g] := by
  refine SlN.mk (by simp [ftC]) (Nat.le_refl _) (by unfold maxLen; omega) (fun h => by cases h) ?_
  intro a ha i x hx
  simp only [Option.some.injEq] at ha
  subst ha
  rw [addr_add_eq, Nat.zero_add, h.cell]
  simpa using hx
theorem nq_ok {q : QD} {f : FT} {w : World} (h : q.Ok w) (hf : f.Ok w) : (nq q f).Ok w := ⟨h.tv, h.tl, h.fr, h.to, h.ev, h.bv, h.bl, hf, h.hv, h.hl, h.od, h.lm⟩
theorem tx_ok : (⟨#[]⟩ : ByteArray).size ≤ 140737488351232 := by decide
theorem not_ok {f : FT} {w : World} {kv : Value} (h : f.Ok w) (hk : RecS ftC 4 w kv [f]) : (notF kv f).Ok w := FT.ok_iff.2 ⟨iq 3, tx_ok, tx_ok, hk, fun k hk => by rw [List.mem_singleton.1 hk]; exact h⟩
theorem and_ok {f : FT} {w : World} {kv : Value} (h : f.Ok w) (hk : RecS ftC 4 w kv [f]) : (andF kv f).Ok w := FT.ok_iff.2 ⟨iq 4, tx_ok, tx_ok, hk, fun k hk => by rw [List.mem_singleton.1 hk]; exact h⟩
theorem or_ok {f g : FT} {w : World} {kv : Value} (h : f.Ok w) (h2 : g.Ok w) (hk : RecS ftC 4 w kv [f, g]) : (orF kv f g).Ok w := FT.ok_iff.2 ⟨iq 5, tx_ok, tx_ok, hk, fun k hk => by
  have hk : k ∈ [f, g] := hk
  rcases List.mem_cons.1 hk with rfl | hk
  · exact h
  · rw [List.mem_singleton.1 hk]; exact h2⟩
theorem zero_ok {w : World} : zeroF.Ok w := FT.ok_iff.2 ⟨iq 0, tx_ok, tx_ok, RecS.nil w, fun k hk => by cases hk⟩
theorem cnt_not (kv : Value) (f : FT) : (notF kv f).cnt = f.cnt + 1 := by rw [FT.cnt_is]; rfl
theorem cnt_and (kv : Value) (f : FT) : (andF kv f).cnt = f.cnt + 1 := by rw [FT.cnt_is]; rfl
theorem cnt_or (kv : Value) (f g : FT) : (orF kv f g).cnt = f.cnt + g.cnt + 1 := by rw [FT.cnt_is]; rfl
theorem where_at {w : World} {k : Nat} {q : QD} (B : Blk w k (qdC q).toArray 42) : cellsAt w ⟨k, 5, none⟩ 4 = some (ftC q.wh) := by
  obtain ⟨_, _, _, _, _, b5, b6, b7, b8, _, _, _⟩ := qdAt B
  refine cellsAt_of 4 _ _ rfl fun i y hx => ?_
  rw [addr_add_eq]
  match i, hx with
  | 0, hx => cases hx; exact b5
  | 1, hx => cases hx; exact b6
  | 2, hx => cases hx; exact b7
  | 3, hx => cases hx; exact b8
  | n + 4, hx => exact absurd hx (by simp [ftC])
set_option maxHeartbeats 8000000 in
theorem law_c (dv mv : Value) (d m : List ByteArray) (q : QD) (w : World) (h : ScIs w dv mv d m) (hq : q.Ok w) : FnC Try.prog 9 #[scV dv mv, .agg (qdC q).toArray] w fun v w' => v = .bool true ∧ Later w w' := by
  have esc : scV dv mv = .agg #[dv, mv] := rfl
  rw [esc]
  refine enter9 _ _ ?_
  unfold B9
  obtain ⟨mo, mc, hmv⟩ := Sl.slice h.mS
  rw [List.length_map] at hmv
  have eca : (Value.agg (qdC q).toArray).cells = (qdC q).toArray := rfl
  have ecb : (Value.agg #[dv, mv]).cells = #[dv, mv] := rfl
  obtain ⟨l1, s1, F⟩ := box2 w dv mv 24
  have B2 := Blk.new (w.alloc (.cells #[dv, mv] 24)) (qdC q).toArray 42
  have l2 := later_alloc (w.alloc (.cells #[dv, mv] 24)) (.cells (qdC q).toArray 42)
  rw [s1] at B2
  repeat' (first | (simp (disch := omega) only [push_cast, ↓reduceIte, zA, zG, zB, zH, zI, zC, zJ, zK, zL, zD, zE, zF, zM, zN, zO, zP, zQ, reduceCtorEq, not_true_eq_false, not_false_eq_true, eca, ecb, s1]) | (first | refine iE ?_ ?_ | refine iD ?_ ?_ | refine iQ ?_ ?_ | refine iV ?_ ?_) <;> intro _ | refine And.intro (by omega) ?_ | fail)
  have l12 := l1.trans l2
  have FF : ∀ w', Later ((w.alloc (.cells #[dv, mv] 24)).alloc (.cells (qdC q).toArray 42)) w' → cellsAt w' ⟨w.heap.size, 0, none⟩ 2 = some [dv, mv] ∧ w'.cell? ⟨w.heap.size, 1, none⟩ = some mv := fun w' hl => ⟨(F w' (l2.trans hl)).2.2, (F w' (l2.trans hl)).2.1⟩
  clear F
  generalize (w.alloc (.cells #[dv, mv] 24)).alloc (.cells (qdC q).toArray 42) = w1 at *
  generalize hkf : w.heap.size = kf at *
  have h1 := h.later l12
  have q1 := hq.later l12
  have QQ : ∀ w', Later w1 w' → cellsAt w' ⟨kf + 1, 0, none⟩ 12 = some (qdC q) := fun w' hl => Blk.cellsAt (l := qdC q) (qdLater B2 hl)
  have c1 := QQ w1 (Later.refl _)
  have f1 := (FF w1 (Later.refl _)).1
  repeat' (first | (simp (disch := omega) only [push_cast, ↓reduceIte, zA, zG, zB, zH, zI, zC, zJ, zK, zL, zD, zE, zF, zM, zN, zO, zP, zQ, reduceCtorEq, not_true_eq_false, not_false_eq_true, c1, f1]) | (first | refine iE ?_ ?_ | refine iD ?_ ?_ | refine iQ ?_ ?_ | refine iV ?_ ?_) <;> intro _ | refine And.intro (by omega) ?_ | refine drawn_q ?_ | fail)
  refine (fits23_c dv mv d m q w1 h1 q1).mono ?_
  rintro _ w2 ⟨rfl, l3⟩
  cases hf : f23 d m q with
  | false =>
    repeat' (first | (simp (disch := omega) only [push_cast, ↓reduceIte, zA, zG, zB, zH, zI, zC, zJ, zK, zL, zD, zE, zF, zM, zN, zO, zP, zQ, reduceCtorEq, not_true_eq_false, not_false_eq_true]) | (first | refine iE ?_ ?_ | refine iD ?_ ?_ | refine iQ ?_ ?_ | refine iV ?_ ?_) <;> intro _ | refine And.intro (by omega) ?_ | refine drawn_q ?_ | fail)
    refine (alive23_c w2).mono ?_
    rintro _ w3 ⟨rfl, l4⟩
    repeat' (first | (simp (disch := omega) only [push_cast, ↓reduceIte, zA, zG, zB, zH, zI, zC, zJ, zK, zL, zD, zE, zF, zM, zN, zO, zP, zQ, reduceCtorEq, not_true_eq_false, not_false_eq_true]) | (first | refine iE ?_ ?_ | refine iD ?_ ?_ | refine iQ ?_ ?_ | refine iV ?_ ?_) <;> intro _ | refine And.intro (by omega) ?_ | refine drawn_q ?_ | fail)
    first | exact ⟨rfl, (l12.trans (l3.trans l4))⟩ | exact (l12.trans (l3.trans l4))
  | true =>
  obtain ⟨hsc, htl, hhl, hbl, hcn, hdp⟩ := f23_ft hf
  have c2 := QQ w2 l3
  have f2 := (FF w2 l3).1
  repeat' (first | (simp (disch := omega) only [push_cast, ↓reduceIte, zA, zG, zB, zH, zI, zC, zJ, zK, zL, zD, zE, zF, zM, zN, zO, zP, zQ, reduceCtorEq, not_true_eq_false, not_false_eq_true, c2, f2]) | (first | refine iE ?_ ?_ | refine iD ?_ ?_ | refine iQ ?_ ?_ | refine iV ?_ ?_) <;> intro _ | refine And.intro (by omega) ?_ | refine drawn_q ?_ | fail)
  refine (tcheck_c dv mv d m q w2 (h1.later l3) (q1.later l3) (by omega) (by omega) (by omega) (by omega)).mono ?_
  rintro _ w3 ⟨rfl, l4⟩
  have l34 := l3.trans l4
  have l04 := l12.trans l34
  have B3 := qdLater B2 l34
  by_cases hck : ckQ d m q = 0
  case neg =>
    have dk : decide (ckQ d m q = 0) = false := decide_eq_false hck
    have dk2 : decide (¬ ckQ d m q = 0) = true := decide_eq_true hck
    repeat' (first | (simp (disch := omega) only [push_cast, ↓reduceIte, zA, zG, zB, zH, zI, zC, zJ, zK, zL, zD, zE, zF, zM, zN, zO, zP, zQ, reduceCtorEq, not_true_eq_false, not_false_eq_true, dk, dk2]) | (first | refine iE ?_ ?_ | refine iD ?_ ?_ | refine iQ ?_ ?_ | refine iV ?_ ?_) <;> intro _ | refine And.intro (by omega) ?_ | refine drawn_q ?_ | fail)
    refine (alive23_c w3).mono ?_
    rintro _ w4 ⟨rfl, l5⟩
    repeat' (first | (simp (disch := omega) only [push_cast, ↓reduceIte, zA, zG, zB, zH, zI, zC, zJ, zK, zL, zD, zE, zF, zM, zN, zO, zP, zQ, reduceCtorEq, not_true_eq_false, not_false_eq_true]) | (first | refine iE ?_ ?_ | refine iD ?_ ?_ | refine iQ ?_ ?_ | refine iV ?_ ?_) <;> intro _ | refine And.intro (by omega) ?_ | refine drawn_q ?_ | fail)
    first | exact ⟨rfl, (l04.trans l5)⟩ | exact (l04.trans l5)
  rw [hck]
  obtain ⟨_, _, _, _, _, g5, _⟩ := qdAt B3
  by_cases hop : q.wh.op = 0
  case pos =>
    have dk : decide (q.wh.op = 0) = true := decide_eq_true hop
    repeat' (first | (simp (disch := omega) only [push_cast, ↓reduceIte, zA, zG, zB, zH, zI, zC, zJ, zK, zL, zD, zE, zF, zM, zN, zO, zP, zQ, reduceCtorEq, not_true_eq_false, not_false_eq_true, dk, g5, decide_true, addr_add_eq, Nat.zero_add]) | (first | refine iE ?_ ?_ | refine iD ?_ ?_ | refine iQ ?_ ?_ | refine iV ?_ ?_) <;> intro _ | refine And.intro (by omega) ?_ | refine drawn_q ?_ | fail)
    refine (alive23_c w3).mono ?_
    rintro _ w4 ⟨rfl, l5⟩
    repeat' (first | (simp (disch := omega) only [push_cast, ↓reduceIte, zA, zG, zB, zH, zI, zC, zJ, zK, zL, zD, zE, zF, zM, zN, zO, zP, zQ, reduceCtorEq, not_true_eq_false, not_false_eq_true]) | (first | refine iE ?_ ?_ | refine iD ?_ ?_ | refine iQ ?_ ?_ | refine iV ?_ ?_) <;> intro _ | refine And.intro (by omega) ?_ | refine drawn_q ?_ | fail)
    first | exact ⟨rfl, (l04.trans l5)⟩ | exact (l04.trans l5)
  have dk : decide (q.wh.op = 0) = false := decide_eq_false hop
  have fw3 := where_at B3
  repeat' (first | (simp (disch := omega) only [push_cast, ↓reduceIte, zA, zG, zB, zH, zI, zC, zJ, zK, zL, zD, zE, zF, zM, zN, zO, zP, zQ, reduceCtorEq, not_true_eq_false, not_false_eq_true, dk, g5, fw3, decide_true, addr_add_eq, Nat.zero_add]) | (first | refine iE ?_ ?_ | refine iD ?_ ?_ | refine iQ ?_ ?_ | refine iV ?_ ?_) <;> intro _ | refine And.intro (by omega) ?_ | refine drawn_q ?_ | fail)
  refine (depth_c q.wh w3 (by omega) (q1.wh.later l34)).mono ?_
  rintro _ w4 ⟨rfl, l5⟩
  have l35 := l34.trans l5
  by_cases hdp2 : q.wh.deep ≤ 28
  case neg =>
    have dd : decide (28 < (q.wh.deep : Int)) = true := decide_eq_true (by omega)
    repeat' (first | (simp (disch := omega) only [push_cast, ↓reduceIte, zA, zG, zB, zH, zI, zC, zJ, zK, zL, zD, zE, zF, zM, zN, zO, zP, zQ, reduceCtorEq, not_true_eq_false, not_false_eq_true, dd]) | (first | refine iE ?_ ?_ | refine iD ?_ ?_ | refine iQ ?_ ?_ | refine iV ?_ ?_) <;> intro _ | refine And.intro (by omega) ?_ | refine drawn_q ?_ | fail)
    refine (alive23_c w4).mono ?_
    rintro _ w5 ⟨rfl, l6⟩
    repeat' (first | (simp (disch := omega) only [push_cast, ↓reduceIte, zA, zG, zB, zH, zI, zC, zJ, zK, zL, zD, zE, zF, zM, zN, zO, zP, zQ, reduceCtorEq, not_true_eq_false, not_false_eq_true]) | (first | refine iE ?_ ?_ | refine iD ?_ ?_ | refine iQ ?_ ?_ | refine iV ?_ ?_) <;> intro _ | refine And.intro (by omega) ?_ | refine drawn_q ?_ | fail)
    first | exact ⟨rfl, (l12.trans (l35.trans l6))⟩ | exact (l12.trans (l35.trans l6))
  have dd : decide (28 < (q.wh.deep : Int)) = false := decide_eq_false (by omega)
  have c4 := QQ w4 l35
  have f4 := (FF w4 l35).1
  repeat' (first | (simp (disch := omega) only [push_cast, ↓reduceIte, zA, zG, zB, zH, zI, zC, zJ, zK, zL, zD, zE, zF, zM, zN, zO, zP, zQ, reduceCtorEq, not_true_eq_false, not_false_eq_true, dd, c4, f4]) | (first | refine iE ?_ ?_ | refine iD ?_ ?_ | refine iQ ?_ ?_ | refine iV ?_ ?_) <;> intro _ | refine And.intro (by omega) ?_ | refine drawn_q ?_ | fail)
  refine (tused_c dv mv d m q w4 (h1.later l35) (q1.later l35) (by omega) (by omega) (by have := hsc.2.2.2.1; omega)).mono ?_
  rintro uv w5 ⟨hU, l6⟩
  obtain ⟨uo, uc, huv⟩ := Sl.slice hU
  rw [List.length_map] at huv
  have l36 := l35.trans l6
  have c5 := QQ w5 l36
  have q5 := q1.later l36
  have one := qdC_one q5
  have wh1 : ∀ u ∈ ftC q.wh, u.oneCell' = true := ftC_one q5.wh
  have FW : ∀ w', Later w1 w' → cellsAt w' ⟨kf + 1, 5, none⟩ 4 = some (ftC q.wh) := fun w' hl => where_at (qdLater B2 hl)
  rw [huv] at hU ⊢
  have L5 := l36
  have M5 := Later.refl w5
  have zz := l36.size
  repeat' (first | (simp (disch := omega) only [push_cast, ↓reduceIte, zA, zG, zB, zH, zI, zC, zJ, zK, zL, zD, zE, zF, zM, zN, zO, zP, zQ, reduceCtorEq, not_true_eq_false, not_false_eq_true, c5]) | (first | refine iE ?_ ?_ | refine iD ?_ ?_ | refine iQ ?_ ?_ | refine iV ?_ ?_) <;> intro _ | refine And.intro (by omega) ?_ | fail)
  refine vStore_new rfl rfl (fun u hu => one u (by simpa using hu)) ?_
  have lA0 := later_alloc w5 (.cells (qdC q).toArray 42)
  have BkA := Blk.new w5 (qdC q).toArray 42
  have zA0 : (w5.alloc (.cells (qdC q).toArray 42)).heap.size = w5.heap.size + 1 := World.size_alloc _ _
  generalize w5.alloc (.cells (qdC q).toArray 42) = wA0 at *
  generalize hkA : w5.heap.size = kA at *
  have LA0 := L5.trans lA0
  have MA0 := M5.trans lA0
  have FWA0 := FW wA0 LA0
  repeat' (first | (simp (disch := omega) only [push_cast, ↓reduceIte, zA, zG, zB, zH, zI, zC, zJ, zK, zL, zD, zE, zF, zM, zN, zO, zP, zQ, reduceCtorEq, not_true_eq_false, not_false_eq_true, FWA0, addr_add_eq, Nat.zero_add]) | (first | refine iE ?_ ?_ | refine iD ?_ ?_ | refine iQ ?_ ?_ | refine iV ?_ ?_) <;> intro _ | refine And.intro (by omega) ?_ | fail)
  rw [bsl_f1 q.wh]
  have lA1 := later_alloc wA0 (.cells (ftC q.wh).toArray 39)
  have Bk1 := Blk.new wA0 (ftC q.wh).toArray 39
  have zA1 : (wA0.alloc (.cells (ftC q.wh).toArray 39)).heap.size = wA0.heap.size + 1 := World.size_alloc _ _
  generalize wA0.alloc (.cells (ftC q.wh).toArray 39) = wA1 at *
  generalize hk1 : wA0.heap.size = k1 at *
  have LA1 := LA0.trans lA1
  have MA1 := MA0.trans lA1
  replace BkA := BkA.chg (Chg.of_later (ks := []) lA1) (by simp)
  repeat' (first | (simp (disch := omega) only [push_cast, ↓reduceIte, zA, zG, zB, zH, zI, zC, zJ, zK, zL, zD, zE, zF, zM, zN, zO, zP, zQ, reduceCtorEq, not_true_eq_false, not_false_eq_true, addr_add_eq, Nat.zero_add]) | (first | refine iE ?_ ?_ | refine iD ?_ ?_ | refine iQ ?_ ?_ | refine iV ?_ ?_) <;> intro _ | refine And.intro (by omega) ?_ | fail)
  refine store_wh (q := q) (f := notF (.slice (some ⟨k1, 0, none⟩) 1 1) q.wh) BkA (fun u hu => by simp only [ftC, notF, orF, andF, zeroF, FT.op, FT.dim, FT.value, FT.kv, List.mem_cons, List.not_mem_nil, or_false] at hu; rcases hu with rfl | rfl | rfl | rfl <;> rfl) ?_
  clear BkA
  intro wA2 BkA gA2
  have zA2 := gA2.size
  have LA2 : Later w1 wA2 := Chg.later LA1 gA2 (fun j hj => by rw [List.mem_singleton.1 hj]; omega)
  have MA2 : Later w5 wA2 := Chg.later MA1 gA2 (fun j hj => by rw [List.mem_singleton.1 hj]; omega)
  have cA2 := QQ wA2 LA2
  replace Bk1 := Bk1.chg gA2 (by simp; omega)
  repeat' (first | (simp (disch := omega) only [push_cast, ↓reduceIte, zA, zG, zB, zH, zI, zC, zJ, zK, zL, zD, zE, zF, zM, zN, zO, zP, zQ, reduceCtorEq, not_true_eq_false, not_false_eq_true, cA2]) | (first | refine iE ?_ ?_ | refine iD ?_ ?_ | refine iQ ?_ ?_ | refine iV ?_ ?_) <;> intro _ | refine And.intro (by omega) ?_ | fail)
  refine vStore_new rfl rfl (fun u hu => one u (by simpa using hu)) ?_
  have lB0 := later_alloc wA2 (.cells (qdC q).toArray 42)
  have BkB := Blk.new wA2 (qdC q).toArray 42
  have zB0 : (wA2.alloc (.cells (qdC q).toArray 42)).heap.size = wA2.heap.size + 1 := World.size_alloc _ _
  generalize wA2.alloc (.cells (qdC q).toArray 42) = wB0 at *
  generalize hkB : wA2.heap.size = kB at *
  have LB0 := LA2.trans lB0
  have MB0 := MA2.trans lB0
  replace BkA := BkA.chg (Chg.of_later (ks := []) lB0) (by simp)
  replace Bk1 := Bk1.chg (Chg.of_later (ks := []) lB0) (by simp)
  have fA := where_at BkA
  have fA : cellsAt wB0 ⟨kA, 5, none⟩ 4 = some (ftC (notF (.slice (some ⟨k1, 0, none⟩) 1 1) q.wh)) := fA
  have FWB0 := FW wB0 LB0
  repeat' (first | (simp (disch := omega) only [push_cast, ↓reduceIte, zA, zG, zB, zH, zI, zC, zJ, zK, zL, zD, zE, zF, zM, zN, zO, zP, zQ, reduceCtorEq, not_true_eq_false, not_false_eq_true, FWB0, fA, addr_add_eq, Nat.zero_add]) | (first | refine iE ?_ ?_ | refine iD ?_ ?_ | refine iQ ?_ ?_ | refine iV ?_ ?_) <;> intro _ | refine And.intro (by omega) ?_ | fail)
  rw [bsl_f2 q.wh (notF (.slice (some ⟨k1, 0, none⟩) 1 1) q.wh)]
  have lB1 := later_alloc wB0 (.cells (ftC q.wh ++ ftC (notF (.slice (some ⟨k1, 0, none⟩) 1 1) q.wh)).toArray 39)
  have Bk2 := Blk.new wB0 (ftC q.wh ++ ftC (notF (.slice (some ⟨k1, 0, none⟩) 1 1) q.wh)).toArray 39
  have zB1 : (wB0.alloc (.cells (ftC q.wh ++ ftC (notF (.slice (some ⟨k1, 0, none⟩) 1 1) q.wh)).toArray 39)).heap.size = wB0.heap.size + 1 := World.size_alloc _ _
  generalize wB0.alloc (.cells (ftC q.wh ++ ftC (notF (.slice (some ⟨k1, 0, none⟩) 1 1) q.wh)).toArray 39) = wB1 at *
  generalize hk2 : wB0.heap.size = k2 at *
  have LB1 := LB0.trans lB1
  have MB1 := MB0.trans lB1
  replace BkA := BkA.chg (Chg.of_later (ks := []) lB1) (by simp)
  replace Bk1 := Bk1.chg (Chg.of_later (ks := []) lB1) (by simp)
  replace BkB := BkB.chg (Chg.of_later (ks := []) lB1) (by simp)
  repeat' (first | (simp (disch := omega) only [push_cast, ↓reduceIte, zA, zG, zB, zH, zI, zC, zJ, zK, zL, zD, zE, zF, zM, zN, zO, zP, zQ, reduceCtorEq, not_true_eq_false, not_false_eq_true, addr_add_eq, Nat.zero_add]) | (first | refine iE ?_ ?_ | refine iD ?_ ?_ | refine iQ ?_ ?_ | refine iV ?_ ?_) <;> intro _ | refine And.intro (by omega) ?_ | fail)
  refine store_wh (q := q) (f := orF (.slice (some ⟨k2, 0, none⟩) 2 2) q.wh (notF (.slice (some ⟨k1, 0, none⟩) 1 1) q.wh)) BkB (fun u hu => by simp only [ftC, notF, orF, andF, zeroF, FT.op, FT.dim, FT.value, FT.kv, List.mem_cons, List.not_mem_nil, or_false] at hu; rcases hu with rfl | rfl | rfl | rfl <;> rfl) ?_
  clear BkB
  intro wB2 BkB gB2
  have zB2 := gB2.size
  have LB2 : Later w1 wB2 := Chg.later LB1 gB2 (fun j hj => by rw [List.mem_singleton.1 hj]; omega)
  have MB2 : Later w5 wB2 := Chg.later MB1 gB2 (fun j hj => by rw [List.mem_singleton.1 hj]; omega)
  have cB2 := QQ wB2 LB2
  replace BkA := BkA.chg gB2 (by simp; omega)
  replace Bk1 := Bk1.chg gB2 (by simp; omega)
  replace Bk2 := Bk2.chg gB2 (by simp; omega)
  repeat' (first | (simp (disch := omega) only [push_cast, ↓reduceIte, zA, zG, zB, zH, zI, zC, zJ, zK, zL, zD, zE, zF, zM, zN, zO, zP, zQ, reduceCtorEq, not_true_eq_false, not_false_eq_true, cB2]) | (first | refine iE ?_ ?_ | refine iD ?_ ?_ | refine iQ ?_ ?_ | refine iV ?_ ?_) <;> intro _ | refine And.intro (by omega) ?_ | fail)
  refine vStore_new rfl rfl (fun u hu => one u (by simpa using hu)) ?_
  have lC0 := later_alloc wB2 (.cells (qdC q).toArray 42)
  have BkC := Blk.new wB2 (qdC q).toArray 42
  have zC0 : (wB2.alloc (.cells (qdC q).toArray 42)).heap.size = wB2.heap.size + 1 := World.size_alloc _ _
  generalize wB2.alloc (.cells (qdC q).toArray 42) = wC0 at *
  generalize hkC : wB2.heap.size = kC at *
  have LC0 := LB2.trans lC0
  have MC0 := MB2.trans lC0
  replace BkA := BkA.chg (Chg.of_later (ks := []) lC0) (by simp)
  replace Bk1 := Bk1.chg (Chg.of_later (ks := []) lC0) (by simp)
  replace BkB := BkB.chg (Chg.of_later (ks := []) lC0) (by simp)
  replace Bk2 := Bk2.chg (Chg.of_later (ks := []) lC0) (by simp)
  have FWC0 := FW wC0 LC0
  repeat' (first | (simp (disch := omega) only [push_cast, ↓reduceIte, zA, zG, zB, zH, zI, zC, zJ, zK, zL, zD, zE, zF, zM, zN, zO, zP, zQ, reduceCtorEq, not_true_eq_false, not_false_eq_true, FWC0, addr_add_eq, Nat.zero_add]) | (first | refine iE ?_ ?_ | refine iD ?_ ?_ | refine iQ ?_ ?_ | refine iV ?_ ?_) <;> intro _ | refine And.intro (by omega) ?_ | fail)
  rw [bsl_f1 q.wh]
  have lC1 := later_alloc wC0 (.cells (ftC q.wh).toArray 39)
  have Bk3 := Blk.new wC0 (ftC q.wh).toArray 39
  have zC1 : (wC0.alloc (.cells (ftC q.wh).toArray 39)).heap.size = wC0.heap.size + 1 := World.size_alloc _ _
  generalize wC0.alloc (.cells (ftC q.wh).toArray 39) = wC1 at *
  generalize hk3 : wC0.heap.size = k3 at *
  have LC1 := LC0.trans lC1
  have MC1 := MC0.trans lC1
  replace BkA := BkA.chg (Chg.of_later (ks := []) lC1) (by simp)
  replace Bk1 := Bk1.chg (Chg.of_later (ks := []) lC1) (by simp)
  replace BkB := BkB.chg (Chg.of_later (ks := []) lC1) (by simp)
  replace Bk2 := Bk2.chg (Chg.of_later (ks := []) lC1) (by simp)
  replace BkC := BkC.chg (Chg.of_later (ks := []) lC1) (by simp)
  repeat' (first | (simp (disch := omega) only [push_cast, ↓reduceIte, zA, zG, zB, zH, zI, zC, zJ, zK, zL, zD, zE, zF, zM, zN, zO, zP, zQ, reduceCtorEq, not_true_eq_false, not_false_eq_true, addr_add_eq, Nat.zero_add]) | (first | refine iE ?_ ?_ | refine iD ?_ ?_ | refine iQ ?_ ?_ | refine iV ?_ ?_) <;> intro _ | refine And.intro (by omega) ?_ | fail)
  refine store_wh (q := q) (f := andF (.slice (some ⟨k3, 0, none⟩) 1 1) q.wh) BkC (fun u hu => by simp only [ftC, notF, orF, andF, zeroF, FT.op, FT.dim, FT.value, FT.kv, List.mem_cons, List.not_mem_nil, or_false] at hu; rcases hu with rfl | rfl | rfl | rfl <;> rfl) ?_
  clear BkC
  intro wC2 BkC gC2
  have zC2 := gC2.size
  have LC2 : Later w1 wC2 := Chg.later LC1 gC2 (fun j hj => by rw [List.mem_singleton.1 hj]; omega)
  have MC2 : Later w5 wC2 := Chg.later MC1 gC2 (fun j hj => by rw [List.mem_singleton.1 hj]; omega)
  have cC2 := QQ wC2 LC2
  replace BkA := BkA.chg gC2 (by simp; omega)
  replace Bk1 := Bk1.chg gC2 (by simp; omega)
  replace BkB := BkB.chg gC2 (by simp; omega)
  replace Bk2 := Bk2.chg gC2 (by simp; omega)
  replace Bk3 := Bk3.chg gC2 (by simp; omega)
  repeat' (first | (simp (disch := omega) only [push_cast, ↓reduceIte, zA, zG, zB, zH, zI, zC, zJ, zK, zL, zD, zE, zF, zM, zN, zO, zP, zQ, reduceCtorEq, not_true_eq_false, not_false_eq_true, cC2]) | (first | refine iE ?_ ?_ | refine iD ?_ ?_ | refine iQ ?_ ?_ | refine iV ?_ ?_) <;> intro _ | refine And.intro (by omega) ?_ | fail)
  refine vStore_new rfl rfl (fun u hu => one u (by simpa using hu)) ?_
  have lD0 := later_alloc wC2 (.cells (qdC q).toArray 42)
  have BkD := Blk.new wC2 (qdC q).toArray 42
  have zD0 : (wC2.alloc (.cells (qdC q).toArray 42)).heap.size = wC2.heap.size + 1 := World.size_alloc _ _
  generalize wC2.alloc (.cells (qdC q).toArray 42) = wD0 at *
  generalize hkD : wC2.heap.size = kD at *
  have LD0 := LC2.trans lD0
  have MD0 := MC2.trans lD0
  replace BkA := BkA.chg (Chg.of_later (ks := []) lD0) (by simp)
  replace Bk1 := Bk1.chg (Chg.of_later (ks := []) lD0) (by simp)
  replace BkB := BkB.chg (Chg.of_later (ks := []) lD0) (by simp)
  replace Bk2 := Bk2.chg (Chg.of_later (ks := []) lD0) (by simp)
  replace BkC := BkC.chg (Chg.of_later (ks := []) lD0) (by simp)
  replace Bk3 := Bk3.chg (Chg.of_later (ks := []) lD0) (by simp)
  repeat' (first | (simp (disch := omega) only [push_cast, ↓reduceIte, zA, zG, zB, zH, zI, zC, zJ, zK, zL, zD, zE, zF, zM, zN, zO, zP, zQ, reduceCtorEq, not_true_eq_false, not_false_eq_true, addr_add_eq, Nat.zero_add]) | (first | refine iE ?_ ?_ | refine iD ?_ ?_ | refine iQ ?_ ?_ | refine iV ?_ ?_) <;> intro _ | refine And.intro (by omega) ?_ | fail)
  refine store_wh (q := q) (f := zeroF) BkD (fun u hu => by simp only [ftC, notF, orF, andF, zeroF, FT.op, FT.dim, FT.value, FT.kv, List.mem_cons, List.not_mem_nil, or_false] at hu; rcases hu with rfl | rfl | rfl | rfl <;> rfl) ?_
  clear BkD
  intro wD1 BkD gD1
  have zD1 := gD1.size
  have LD1 : Later w1 wD1 := Chg.later LD0 gD1 (fun j hj => by rw [List.mem_singleton.1 hj]; omega)
  have MD1 : Later w5 wD1 := Chg.later MD0 gD1 (fun j hj => by rw [List.mem_singleton.1 hj]; omega)
  have cD1 := QQ wD1 LD1
  replace BkA := BkA.chg gD1 (by simp; omega)
  replace Bk1 := Bk1.chg gD1 (by simp; omega)
  replace BkB := BkB.chg gD1 (by simp; omega)
  replace Bk2 := Bk2.chg gD1 (by simp; omega)
  replace BkC := BkC.chg gD1 (by simp; omega)
  replace Bk3 := Bk3.chg gD1 (by simp; omega)
  have qd := q1.later LD1
  have okN := not_ok (kv := .slice (some ⟨k1, 0, none⟩) 1 1) qd.wh (RecS.lit1 (ftC_len q.wh) Bk1)
  have okO := or_ok (kv := .slice (some ⟨k2, 0, none⟩) 2 2) qd.wh okN (rec2 Bk2)
  have okA := and_ok (kv := .slice (some ⟨k3, 0, none⟩) 1 1) qd.wh (RecS.lit1 (ftC_len q.wh) Bk3)
  have qN := nq_ok qd okN
  have qO := nq_ok qd okO
  have qA := nq_ok qd okA
  have qZ := nq_ok qd (zero_ok (w := wD1))
  obtain ⟨r1, r2, r3, r4, r5, r6, r7⟩ := filt_all (d := d) (m := m) hck hop hdp2 (.slice (some ⟨k1, 0, none⟩) 1 1) (.slice (some ⟨k2, 0, none⟩) 2 2) (.slice (some ⟨k1, 0, none⟩) 1 1) (.slice (some ⟨k3, 0, none⟩) 1 1)
  have nN : (nq q (notF (.slice (some ⟨k1, 0, none⟩) 1 1) q.wh)).wh.cnt ≤ 1000000 := by show (notF _ q.wh).cnt ≤ _; rw [cnt_not]; omega
  have nO : (nq q (orF (.slice (some ⟨k2, 0, none⟩) 2 2) q.wh (notF (.slice (some ⟨k1, 0, none⟩) 1 1) q.wh))).wh.cnt ≤ 1000000 := by show (orF _ q.wh _).cnt ≤ _; rw [cnt_or, cnt_not]; omega
  have nA : (nq q (andF (.slice (some ⟨k3, 0, none⟩) 1 1) q.wh)).wh.cnt ≤ 1000000 := by show (andF _ q.wh).cnt ≤ _; rw [cnt_and]; omega
  have nZ : (nq q zeroF).wh.cnt ≤ 1000000 := (show (1 : Nat) ≤ 1000000 by decide)
  have mN : ∀ f, (nq q f).bl.length ≤ 1000 ∧ (nq q f).tl.length ≤ 1000 ∧ (nq q f).hl.length ≤ 1000 := fun f => ⟨by show q.bl.length ≤ _; omega, by show q.tl.length ≤ _; omega, by show q.hl.length ≤ _; omega⟩
  have mQN := mN (notF (.slice (some ⟨k1, 0, none⟩) 1 1) q.wh)
  have mQO := mN (orF (.slice (some ⟨k2, 0, none⟩) 2 2) q.wh (notF (.slice (some ⟨k1, 0, none⟩) 1 1) q.wh))
  have mQA := mN (andF (.slice (some ⟨k3, 0, none⟩) 1 1) q.wh)
  have mQZ := mN zeroF
  clear mN
  have hd1000 : d.length ≤ 1000 := by have := hsc.2.2.2.1; omega
  have hUL := Sl.later hU MD1
  generalize nq q (notF (.slice (some ⟨k1, 0, none⟩) 1 1) q.wh) = QN at *
  generalize nq q (orF (.slice (some ⟨k2, 0, none⟩) 2 2) q.wh (notF (.slice (some ⟨k1, 0, none⟩) 1 1) q.wh)) = QO at *
  generalize nq q (andF (.slice (some ⟨k3, 0, none⟩) 1 1) q.wh) = QA at *
  generalize nq q zeroF = QZ at *
  have CC : ∀ w', Later wD1 w' → cellsAt w' ⟨kf, 0, none⟩ 2 = some [dv, mv] ∧ cellsAt w' ⟨kA, 0, none⟩ 12 = some (qdC QN) ∧ cellsAt w' ⟨kB, 0, none⟩ 12 = some (qdC QO) ∧ cellsAt w' ⟨kC, 0, none⟩ 12 = some (qdC QA) ∧ cellsAt w' ⟨kD, 0, none⟩ 12 = some (qdC QZ) := fun w' hl => ⟨(FF w' (LD1.trans hl)).1, Blk.cellsAt (l := qdC QN) (qdLater BkA hl), Blk.cellsAt (l := qdC QO) (qdLater BkB hl), Blk.cellsAt (l := qdC QA) (qdLater BkC hl), Blk.cellsAt (l := qdC QZ) (qdLater BkD hl)⟩
  have HS := fun w' (hl : Later wD1 w') => h1.later (LD1.trans hl)
  repeat' (first | (simp (disch := omega) only [push_cast, ↓reduceIte, zA, zG, zB, zH, zI, zC, zJ, zK, zL, zD, zE, zF, zM, zN, zO, zP, zQ, reduceCtorEq, not_true_eq_false, not_false_eq_true]) | (first | refine iE ?_ ?_ | refine iD ?_ ?_ | refine iQ ?_ ?_ | refine iV ?_ ?_) <;> intro _ | refine And.intro (by omega) ?_ | refine drawn_q ?_ | fail)
  refine (alive23_c wD1).mono ?_
  rintro _ wa ⟨rfl, ea⟩
  obtain ⟨s0, sN, sO, sA, sZ⟩ := CC wa ea
  repeat' (first | (simp (disch := omega) only [push_cast, ↓reduceIte, zA, zG, zB, zH, zI, zC, zJ, zK, zL, zD, zE, zF, zM, zN, zO, zP, zQ, reduceCtorEq, not_true_eq_false, not_false_eq_true, s0, sN]) | (first | refine iE ?_ ?_ | refine iD ?_ ?_ | refine iQ ?_ ?_ | refine iV ?_ ?_) <;> intro _ | refine And.intro (by omega) ?_ | refine drawn_q ?_ | fail)
  refine (tcheck_c dv mv d m QN wa (HS wa ea) (qN.later ea) nN mQN.1 mQN.2.1 mQN.2.2).mono ?_
  rintro _ wb ⟨rfl, eb⟩
  rw [r1]
  have eb := ea.trans eb
  obtain ⟨s0, sN, sO, sA, sZ⟩ := CC wb eb
  repeat' (first | (simp (disch := omega) only [push_cast, ↓reduceIte, zA, zG, zB, zH, zI, zC, zJ, zK, zL, zD, zE, zF, zM, zN, zO, zP, zQ, reduceCtorEq, not_true_eq_false, not_false_eq_true, s0, sO, decide_true]) | (first | refine iE ?_ ?_ | refine iD ?_ ?_ | refine iQ ?_ ?_ | refine iV ?_ ?_) <;> intro _ | refine And.intro (by omega) ?_ | refine drawn_q ?_ | fail)
  refine (tcheck_c dv mv d m QO wb (HS wb eb) (qO.later eb) nO mQO.1 mQO.2.1 mQO.2.2).mono ?_
  rintro _ wc ⟨rfl, ec⟩
  rw [r2]
  have ec := eb.trans ec
  obtain ⟨s0, sN, sO, sA, sZ⟩ := CC wc ec
  repeat' (first | (simp (disch := omega) only [push_cast, ↓reduceIte, zA, zG, zB, zH, zI, zC, zJ, zK, zL, zD, zE, zF, zM, zN, zO, zP, zQ, reduceCtorEq, not_true_eq_false, not_false_eq_true, s0, sA, decide_true]) | (first | refine iE ?_ ?_ | refine iD ?_ ?_ | refine iQ ?_ ?_ | refine iV ?_ ?_) <;> intro _ | refine And.intro (by omega) ?_ | refine drawn_q ?_ | fail)
  refine (tcheck_c dv mv d m QA wc (HS wc ec) (qA.later ec) nA mQA.1 mQA.2.1 mQA.2.2).mono ?_
  rintro _ wd ⟨rfl, ed⟩
  rw [r3]
  have ed := ec.trans ed
  obtain ⟨s0, sN, sO, sA, sZ⟩ := CC wd ed
  repeat' (first | (simp (disch := omega) only [push_cast, ↓reduceIte, zA, zG, zB, zH, zI, zC, zJ, zK, zL, zD, zE, zF, zM, zN, zO, zP, zQ, reduceCtorEq, not_true_eq_false, not_false_eq_true, s0, sZ, decide_true]) | (first | refine iE ?_ ?_ | refine iD ?_ ?_ | refine iQ ?_ ?_ | refine iV ?_ ?_) <;> intro _ | refine And.intro (by omega) ?_ | refine drawn_q ?_ | fail)
  refine (tcheck_c dv mv d m QZ wd (HS wd ed) (qZ.later ed) nZ mQZ.1 mQZ.2.1 mQZ.2.2).mono ?_
  rintro _ we ⟨rfl, ee⟩
  rw [r4]
  have ee := ed.trans ee
  obtain ⟨s0, sN, sO, sA, sZ⟩ := CC we ee
  repeat' (first | (simp (disch := omega) only [push_cast, ↓reduceIte, zA, zG, zB, zH, zI, zC, zJ, zK, zL, zD, zE, zF, zM, zN, zO, zP, zQ, reduceCtorEq, not_true_eq_false, not_false_eq_true, s0, sN, decide_true]) | (first | refine iE ?_ ?_ | refine iD ?_ ?_ | refine iQ ?_ ?_ | refine iV ?_ ?_) <;> intro _ | refine And.intro (by omega) ?_ | refine drawn_q ?_ | fail)
  refine (tused_c dv mv d m QN we (HS we ee) (qN.later ee) nN mQN.1 hd1000).mono ?_
  rintro nv wg ⟨hn, eg⟩
  rw [r5] at hn
  have eg := ee.trans eg
  obtain ⟨no, nc, hnv⟩ := Sl.slice hn
  rw [hnv] at hn ⊢
  repeat' (first | (simp (disch := omega) only [push_cast, ↓reduceIte, zA, zG, zB, zH, zI, zC, zJ, zK, zL, zD, zE, zF, zM, zN, zO, zP, zQ, reduceCtorEq, not_true_eq_false, not_false_eq_true]) | (first | refine iE ?_ ?_ | refine iD ?_ ?_ | refine iQ ?_ ?_ | refine iV ?_ ?_) <;> intro _ | refine And.intro (by omega) ?_ | refine drawn_q ?_ | fail)
  refine (texts_c _ _ _ _ wg hn (Sl.later hUL eg)).mono ?_
  rintro _ wh ⟨rfl, eh⟩
  have eh := eg.trans eh
  obtain ⟨s0, sN, sO, sA, sZ⟩ := CC wh eh
  repeat' (first | (simp (disch := omega) only [push_cast, ↓reduceIte, zA, zG, zB, zH, zI, zC, zJ, zK, zL, zD, zE, zF, zM, zN, zO, zP, zQ, reduceCtorEq, not_true_eq_false, not_false_eq_true, s0, sO, decide_true]) | (first | refine iE ?_ ?_ | refine iD ?_ ?_ | refine iQ ?_ ?_ | refine iV ?_ ?_) <;> intro _ | refine And.intro (by omega) ?_ | refine drawn_q ?_ | fail)
  refine (tused_c dv mv d m QO wh (HS wh eh) (qO.later eh) nO mQO.1 hd1000).mono ?_
  rintro ov wi ⟨ho, ei⟩
  rw [r6] at ho
  have ei := eh.trans ei
  obtain ⟨oo, oc, hov⟩ := Sl.slice ho
  rw [hov] at ho ⊢
  repeat' (first | (simp (disch := omega) only [push_cast, ↓reduceIte, zA, zG, zB, zH, zI, zC, zJ, zK, zL, zD, zE, zF, zM, zN, zO, zP, zQ, reduceCtorEq, not_true_eq_false, not_false_eq_true]) | (first | refine iE ?_ ?_ | refine iD ?_ ?_ | refine iQ ?_ ?_ | refine iV ?_ ?_) <;> intro _ | refine And.intro (by omega) ?_ | refine drawn_q ?_ | fail)
  refine (texts_c _ _ _ _ wi ho (Sl.later hUL ei)).mono ?_
  rintro _ wj ⟨rfl, ej⟩
  have ej := ei.trans ej
  obtain ⟨s0, sN, sO, sA, sZ⟩ := CC wj ej
  repeat' (first | (simp (disch := omega) only [push_cast, ↓reduceIte, zA, zG, zB, zH, zI, zC, zJ, zK, zL, zD, zE, zF, zM, zN, zO, zP, zQ, reduceCtorEq, not_true_eq_false, not_false_eq_true, s0, sZ, decide_true]) | (first | refine iE ?_ ?_ | refine iD ?_ ?_ | refine iQ ?_ ?_ | refine iV ?_ ?_) <;> intro _ | refine And.intro (by omega) ?_ | refine drawn_q ?_ | fail)
  refine (tused_c dv mv d m QZ wj (HS wj ej) (qZ.later ej) nZ mQZ.1 hd1000).mono ?_
  rintro xv wk ⟨hx, ek⟩
  obtain ⟨xo, xc, hxv⟩ := Sl.slice hx
  rw [List.length_map] at hxv
  rw [hxv]
  have dl : decide (((usedL d QZ).length : Int) ≤ ((usedL d q).length : Int)) = true := decide_eq_true (by omega)
  repeat' (first | (simp (disch := omega) only [push_cast, ↓reduceIte, zA, zG, zB, zH, zI, zC, zJ, zK, zL, zD, zE, zF, zM, zN, zO, zP, zQ, reduceCtorEq, not_true_eq_false, not_false_eq_true, dl, decide_true]) | (first | refine iE ?_ ?_ | refine iD ?_ ?_ | refine iQ ?_ ?_ | refine iV ?_ ?_) <;> intro _ | refine And.intro (by omega) ?_ | refine drawn_q ?_ | fail)
  first | exact ⟨rfl, (l12.trans (LD1.trans (ej.trans ek)))⟩ | exact (l12.trans (LD1.trans (ej.trans ek)))
theorem own : ownKnob Try.prog.godebug = none := by kernel_rfl
theorem lifted (os : Os) (started : os.Started) (H : Type) (enc : TypeId × Value → H) :
    ReturnsInHanded {} Try.checked os 9 .any (Rows.typerFilterSpec.pre6 enc Try.prog Try.f9 Rows.typerFilterRow.domain false) (Rows.typerFilterSpec.post enc Try.prog Try.f9 false true false false) := by
  refine lifted_laterZ (C := Try.checked) own started (by kernel_rfl) Try.func9 hb9
    (ChangeSpec.witness6 (enc := enc) (C := Try.checked) false ⟨#[], #[.agg #[.slice none 0 0, .slice none 0 0], .agg #[.slice none 0 0, .int .i64 0, .int .i64 0, .int .i64 0, .slice none 0 0, .int .i64 0, .string ⟨#[]⟩, .string ⟨#[]⟩, .slice none 0 0, .slice none 0 0, .int .i64 0, .int .i64 0]], []⟩ 20 (by kernel_rfl) (by kernel_rfl) (by kernel_rfl) (by kernel_rfl))
    (by kernel_rfl) (list_all (by kernel_rfl)) (by kernel_rfl) Try.underlying4 rfl ?_ ?_
  · intro ds h
    have h : ds.length = 2 := h
    match ds, h with
    | [_, _], _ => rfl
  · intro W base args ds p hval0 hz0 hA0
    have hval : ∀ (j : Nat) t v, Try.f9.params[j]? = some t → args[j]? = some v → Value.okWide Try.prog W .any base t v := hval0
    have hz : ∀ (j : Nat) t d, Try.f9.params.toList[j]? = some t → ds[j]? = some d → Sz Try.prog t d := hz0
    have hA : DataW.TrodAll enc Try.prog W 0 (fun _ => true) true Try.f9.params.toList args.toList ds p := hA0
    rw [Try.params9] at hA hval hz
    obtain ⟨v0, vs0, d0, ds0, p0, q0, hargs, rfl, rfl, h0, r0⟩ := trodAll_cons hA
    obtain ⟨v1, vs1, d1, ds1, p1, q1, rfl, rfl, rfl, h1, r1⟩ := trodAll_cons r0
    obtain ⟨rfl, rfl, rfl⟩ := trodAll_nil r1
    obtain rfl : args = #[v0, v1] := by cases args; simp_all
    obtain ⟨cs0, e0, w0⟩ := openZ_agg ⟨_, Try.underlying24⟩ (fun _ => z_schema) (hval 0 24 v0 rfl rfl) h0 (hz 0 _ _ rfl rfl)
    obtain ⟨cs1, e1, w1⟩ := openZ_agg ⟨_, Try.underlying42⟩ (fun _ => z_query) (hval 1 42 v1 rfl rfl) h1 (hz 1 _ _ rfl rfl)
    obtain ⟨dv0, mv0, dl0, ml0, rfl, ok0⟩ := w0
    subst e0
    obtain ⟨m1, rfl, ok1⟩ := w1
    subst e1
    exact law_c dv0 mv0 dl0 ml0 m1 W (ScIs.of_ok ok0) ok1
theorem over : Rows.typerFilterRow.holds Try.pinned (OpenSpec.ofChange Rows.typerFilterSpec) :=
  OpenClaim.holds_of_wide 9 Try.f9 rfl rfl rfl rfl rfl rfl rfl ⟨rfl, rfl, rfl, rfl, rfl⟩ rfl rfl rfl rfl rfl (by kernel_rfl) Try.func9 (by kernel_rfl)
    (of_decide_eq_true (by kernel_rfl)) (by unfold Func.isWrapper; first | (rw [if_pos (by decide +kernel)]; kernel_rfl) | (rw [if_neg (by decide +kernel)]; exact ⟨rfl, rfl⟩))
    (fun os started H enc _ => lifted os started H enc)
/-- The statement. -/
theorem proved : Rows.TyperFilterSaid :=
  over
end Go.Proofs.Ytnofalhkapmcnaa.typerFilter
