/- The document's vault: Append. -/
import Derived.ArgAppend
import Derived.Test.YtmfcnooleejgmaaPartI
set_option linter.all false
open Nat renaming reduceEqDiff → zA, reducePow → zB, reduceMul → zC, reduceAdd → zD, reduceSub → zE, reduceLeDiff → zF
open Int renaming reduceToNat → zG, reducePow → zH, reduceNeg → zI, reduceMul → zJ, reduceAdd → zK, reduceSub → zL, reduceLT → zM, reduceLE → zN, reduceEq → zO, reduceMod → zP, reduceDiv → zQ
section
set_option linter.unusedSimpArgs false
namespace Go.Proofs.Ytmfcnooleejgmaa
open Go.Vc Go.Vlt Go.Key
set_option maxRecDepth 100000
theorem DE.Ok.later {w w' : World} {d : DE} (h : d.Ok w) (hl : Later w w') : d.Ok w' := h.chg (Chg.of_later (ks := []) hl) (by simp)
theorem new_d (room : Int) (w : World) (h : -9223372036854775808 ≤ room ∧ room ≤ 9223372036854775807) : FnC Try.prog 20 #[.int .i64 room] w fun v w' => ((v = .tuple #[.pointer none, .int .i64 1] ∧ ¬ (0 ≤ room ∧ room ≤ 16777216)) ∨ (0 ≤ room ∧ room ≤ 16777216 ∧ ∃ bm, w.heap.size ≤ bm ∧ v = .tuple #[.pointer (some ⟨bm, 0, none⟩), .int .i64 0] ∧ DV w' bm (s0 room))) ∧ Later w w' := by
  refine enter20 _ ?_
  unfold B20
  by_cases h1 : room < 0
  · have hd := decide_eq_true h1
    repeat' (first | (simp (disch := omega) only [push_cast, ↓reduceIte, zA, zG, zB, zH, zI, zC, zJ, zK, zL, zD, zE, zF, zM, zN, zO, zP, zQ, reduceCtorEq, not_true_eq_false, not_false_eq_true, hd]) | (first | refine vIfE_of ?_ ?_ | refine vIfD_of ?_ ?_ | refine vIfQ_of ?_ ?_ | refine vIfV_of ?_ ?_) <;> intro _ | refine And.intro (by omega) ?_ | refine drawn_q ?_ | fail)
    first | exact ⟨.inl ⟨rfl, by omega⟩, Later.refl _⟩ | exact Later.refl _
  have hd := decide_eq_false h1
  by_cases h2 : 16777216 < room
  · have hd2 := decide_eq_true h2
    repeat' (first | (simp (disch := omega) only [push_cast, ↓reduceIte, zA, zG, zB, zH, zI, zC, zJ, zK, zL, zD, zE, zF, zM, zN, zO, zP, zQ, reduceCtorEq, not_true_eq_false, not_false_eq_true, hd, hd2]) | (first | refine vIfE_of ?_ ?_ | refine vIfD_of ?_ ?_ | refine vIfQ_of ?_ ?_ | refine vIfV_of ?_ ?_) <;> intro _ | refine And.intro (by omega) ?_ | refine drawn_q ?_ | fail)
    first | exact ⟨.inl ⟨rfl, by omega⟩, Later.refl _⟩ | exact Later.refl _
  have hd2 := decide_eq_false h2
  have eca : (Value.agg #[.int .i64 room, .int .i64 (-1), .slice none 0 0]).cells = #[.int .i64 room, .int .i64 (-1), .slice none 0 0] := rfl
  repeat' (first | (simp (disch := omega) only [push_cast, ↓reduceIte, zA, zG, zB, zH, zI, zC, zJ, zK, zL, zD, zE, zF, zM, zN, zO, zP, zQ, reduceCtorEq, not_true_eq_false, not_false_eq_true, hd, hd2, eca]) | (first | refine vIfE_of ?_ ?_ | refine vIfD_of ?_ ?_ | refine vIfQ_of ?_ ?_ | refine vIfV_of ?_ ?_) <;> intro _ | refine And.intro (by omega) ?_ | fail)
  have hD : DV' (w.alloc (.cells #[.int .i64 room, .int .i64 (-1), .slice none 0 0] 71)) w.heap.size (.slice none 0 0) [] (s0 room) :=
    ⟨Blk.new _ _ _, RecS.nil _, trivial, rfl, by simp⟩
  exact ⟨.inr ⟨by omega, by omega, _, Nat.le_refl _, rfl, _, _, hD⟩, later_alloc _ _⟩
theorem DV'.at {w : World} {bm : Nat} {lv : Value} {ds : List DE} {s : Vst} (h : DV' w bm lv ds s) {i : Nat} (hi : i < s.L.length) : ∃ hi' : i < ds.length, s.L[i] = (ds[i]).fl := ⟨by rw [← h.eq, List.length_map] at hi; exact hi, by simp only [← h.eq, List.getElem_map]⟩
set_option maxHeartbeats 1000000 in
theorem append_d (bm : Nat) (s : Vst) (k : ByteArray) (bv : Value) (bl : List UInt8) (w : World) (h : DV w bm s) (g : Good s) (hk : k.size ≤ 1000000000) (hb : Sl w bv (bl.map u8v)) (hbj : ∃ j, inB j bv ∧ j ≠ bm) (hbl : bl.length ≤ 100000000) :
    FnC Try.prog 37 #[.pointer (some ⟨bm, 0, none⟩), .string k, bv] w fun v w' => v = .int .i64 (aApp k bl s).1 ∧ DV w' bm (aApp k bl s).2 ∧ Chg w w' [bm] := by
  obtain ⟨bo, bc, rfl⟩ := Sl.slice hb
  rw [List.length_map] at hb hbj ⊢
  unfold aApp
  refine enter37 _ _ _ ?_
  unfold B37
  repeat' (first | (simp (disch := omega) only [push_cast, ↓reduceIte, zA, zG, zB, zH, zI, zC, zJ, zK, zL, zD, zE, zF, zM, zN, zO, zP, zQ, reduceCtorEq, not_true_eq_false, not_false_eq_true]) | (first | refine vIfE_of ?_ ?_ | refine vIfD_of ?_ ?_ | refine vIfQ_of ?_ ?_ | refine vIfV_of ?_ ?_) <;> intro _ | refine And.intro (by omega) ?_ | refine drawn_q ?_ | fail)
  refine (dname_c k w (by omega)).mono ?_
  rintro _ w0 ⟨rfl, hw0⟩
  obtain rfl := hw0.symm
  cases m1 : nmOk k with
  | false =>
    rw [if_pos rfl]
    repeat' (first | (simp (disch := omega) only [push_cast, ↓reduceIte, zA, zG, zB, zH, zI, zC, zJ, zK, zL, zD, zE, zF, zM, zN, zO, zP, zQ, reduceCtorEq, not_true_eq_false, not_false_eq_true]) | (first | refine vIfE_of ?_ ?_ | refine vIfD_of ?_ ?_ | refine vIfQ_of ?_ ?_ | refine vIfV_of ?_ ?_) <;> intro _ | refine And.intro (by omega) ?_ | refine drawn_q ?_ | fail)
    first | exact ⟨rfl, h, Chg.refl _ _⟩ | exact ⟨h, Chg.refl _ _⟩ | exact Chg.refl _ _
  | true =>
  rw [if_neg (by simp)]
  repeat' (first | (simp (disch := omega) only [push_cast, ↓reduceIte, zA, zG, zB, zH, zI, zC, zJ, zK, zL, zD, zE, zF, zM, zN, zO, zP, zQ, reduceCtorEq, not_true_eq_false, not_false_eq_true]) | (first | refine vIfE_of ?_ ?_ | refine vIfD_of ?_ ?_ | refine vIfQ_of ?_ ?_ | refine vIfV_of ?_ ?_) <;> intro _ | refine And.intro (by omega) ?_ | refine drawn_q ?_ | fail)
  refine (burnt_d bm s w h g).mono ?_
  rintro _ w1 ⟨rfl, h1, c1⟩
  obtain ⟨bj, bj1, bj2⟩ := hbj
  have hb1 := Sl.chg hb c1 (by simpa using bj2) bj1
  by_cases hz : brn s.fuse = 0
  · have hd := decide_eq_true hz
    rw [if_pos hz]
    repeat' (first | (simp (disch := omega) only [push_cast, ↓reduceIte, zA, zG, zB, zH, zI, zC, zJ, zK, zL, zD, zE, zF, zM, zN, zO, zP, zQ, reduceCtorEq, not_true_eq_false, not_false_eq_true, hd]) | (first | refine vIfE_of ?_ ?_ | refine vIfD_of ?_ ?_ | refine vIfQ_of ?_ ?_ | refine vIfV_of ?_ ?_) <;> intro _ | refine And.intro (by omega) ?_ | refine drawn_q ?_ | fail)
    first | exact ⟨rfl, h1, c1⟩ | exact ⟨h1, c1⟩ | exact c1
  have hd := decide_eq_false hz
  rw [if_neg hz]
  have g1 := g.burn
  repeat' (first | (simp (disch := omega) only [push_cast, ↓reduceIte, zA, zG, zB, zH, zI, zC, zJ, zK, zL, zD, zE, zF, zM, zN, zO, zP, zQ, reduceCtorEq, not_true_eq_false, not_false_eq_true, hd]) | (first | refine vIfE_of ?_ ?_ | refine vIfD_of ?_ ?_ | refine vIfQ_of ?_ ?_ | refine vIfV_of ?_ ?_) <;> intro _ | refine And.intro (by omega) ?_ | refine drawn_q ?_ | fail)
  refine (find_d bm s.burn k w1 h1 g1).mono ?_
  rintro _ w2 ⟨⟨i, hF, rfl, hiff⟩, l2⟩
  have hL : s.burn.L = s.L := rfl
  rw [hL] at hF hiff ⊢
  have h2 := DV.later h1 l2
  have hb2 := Sl.later hb1 l2
  repeat' (first | (simp (disch := omega) only [push_cast, ↓reduceIte, zA, zG, zB, zH, zI, zC, zJ, zK, zL, zD, zE, zF, zM, zN, zO, zP, zQ, reduceCtorEq, not_true_eq_false, not_false_eq_true]) | (first | refine vIfE_of ?_ ?_ | refine vIfD_of ?_ ?_ | refine vIfQ_of ?_ ?_ | refine vIfV_of ?_ ?_) <;> intro _ | refine And.intro (by omega) ?_ | refine drawn_q ?_ | fail)
  refine (free_d bm s.burn w2 h2 g1).mono ?_
  rintro _ w0 ⟨rfl, hw0⟩
  obtain rfl := hw0.symm
  have hR : s.burn.room = s.room := rfl
  rw [hL, hR]
  have htot := g.tot
  have hroom := g.room
  have hlen := g.len
  have htn := tl_nn s.L
  obtain ⟨lv, ds, h2'⟩ := h2
  have c02 : Chg w w2 [bm] := c1.trans (Chg.of_later l2)
  by_cases hb1' : s.room - tl s.L < bl.length
  · have hd2 := decide_eq_true hb1'
    rw [if_pos (.inl hb1')]
    repeat' (first | (simp (disch := omega) only [push_cast, ↓reduceIte, zA, zG, zB, zH, zI, zC, zJ, zK, zL, zD, zE, zF, zM, zN, zO, zP, zQ, reduceCtorEq, not_true_eq_false, not_false_eq_true, hd2]) | (first | refine vIfE_of ?_ ?_ | refine vIfD_of ?_ ?_ | refine vIfQ_of ?_ ?_ | refine vIfV_of ?_ ?_) <;> intro _ | refine And.intro (by omega) ?_ | refine drawn_q ?_ | fail)
    first | exact ⟨rfl, ⟨lv, ds, h2'⟩, c02⟩ | exact ⟨⟨lv, ds, h2'⟩, c02⟩ | exact c02
  have hd2 := decide_eq_false hb1'
  obtain ⟨lo, lc, rfl, hc1, hc2, hdl⟩ := h2'.L
  rw [hL] at hdl
  have f2 : ∀ w', Later w2 w' → w'.cell? ⟨bm, 2, none⟩ = some (.slice lo ds.length lc) := fun w' hl => (h2'.later hl).blk.cell 2
  have f20 := f2 w2 (Later.refl _)
  have hob := oB_le (k := k) (L := s.L)
  have hos := oS_le (k := k) g.safe
  cases hs : (lk k s.L).isSome
  case' false =>
    have hno : lk k s.L = none := by simpa using hs
    by_cases hfull : 200 ≤ s.L.length
    · rw [if_pos (.inr ⟨hno, hfull⟩)]
      have hd3 : decide ((200 : Int) ≤ (ds.length : Int)) = true := decide_eq_true (by omega)
      repeat' (first | (simp (disch := omega) only [push_cast, ↓reduceIte, zA, zG, zB, zH, zI, zC, zJ, zK, zL, zD, zE, zF, zM, zN, zO, zP, zQ, reduceCtorEq, not_true_eq_false, not_false_eq_true, hd2, f20, hd3, addr_add_eq, Nat.zero_add]) | (first | refine vIfE_of ?_ ?_ | refine vIfD_of ?_ ?_ | refine vIfQ_of ?_ ?_ | refine vIfV_of ?_ ?_) <;> intro _ | refine And.intro (by omega) ?_ | refine drawn_q ?_ | fail)
      first | exact ⟨rfl, ⟨_, ds, h2'⟩, c02⟩ | exact ⟨⟨_, ds, h2'⟩, c02⟩ | exact c02
    rw [if_neg (by rintro (h' | ⟨_, h'⟩); exact hb1' h'; exact hfull h')]
    have hd3 : decide ((200 : Int) ≤ (ds.length : Int)) = false := decide_eq_false (by omega)
    repeat' (first | (simp (disch := omega) only [push_cast, ↓reduceIte, zA, zG, zB, zH, zI, zC, zJ, zK, zL, zD, zE, zF, zM, zN, zO, zP, zQ, reduceCtorEq, not_true_eq_false, not_false_eq_true, hd2, f20, hd3, addr_add_eq, Nat.zero_add]) | (first | refine vIfE_of ?_ ?_ | refine vIfD_of ?_ ?_ | refine vIfQ_of ?_ ?_ | refine vIfV_of ?_ ?_) <;> intro _ | refine And.intro (by omega) ?_ | refine drawn_q ?_ | fail)
    refine vStore_new rfl rfl (by intro u hu; simp at hu; rcases hu with rfl | rfl | rfl <;> rfl) ?_
    obtain ⟨d0, hd0, e1, e2, e3⟩ : ∃ d0 : DE, flC d0 = [.string k, .slice none 0 0, .int .i64 0] ∧ d0.name = k ∧ d0.b = oB k s.L ∧ d0.safe = oS k s.L := ⟨⟨k, [], 0, none, 0⟩, rfl, rfl, by unfold oB; rw [hno]; rfl, by unfold oS; rw [hno]; rfl⟩
    have hok0 : ∀ w', d0.Ok w' := fun w' => by
      have hb0 : d0.b = [] := by rw [e2]; unfold oB; rw [hno]; rfl
      unfold flC at hd0
      simp only [List.cons.injEq, Value.slice.injEq, and_true] at hd0
      obtain ⟨_, ⟨q1, q2, q3⟩, _⟩ := hd0
      refine ⟨?_, ?_⟩
      · unfold DE.bv; rw [hb0, q1, q3]; exact Sl.nil _
      · unfold DE.bv; rw [q1]; trivial
    have l6 := later_alloc w2 (.cells #[.string k, .slice none 0 0, .int .i64 0] 73)
    have B6 : Blk (w2.alloc (.cells #[.string k, .slice none 0 0, .int .i64 0] 73)) w2.heap.size (flC d0).toArray 73 := by rw [hd0]; exact Blk.new _ _ _
    have hok6 := hok0 (w2.alloc (.cells #[.string k, .slice none 0 0, .int .i64 0] 73))
    generalize w2.alloc (.cells #[.string k, .slice none 0 0, .int .i64 0] 73) = w6 at *
    generalize hkf : w2.heap.size = kf at *
    clear hok0 hd0
    repeat' (first | (simp (disch := omega) only [push_cast, ↓reduceIte, zA, zG, zB, zH, zI, zC, zJ, zK, zL, zD, zE, zF, zM, zN, zO, zP, zQ, reduceCtorEq, not_true_eq_false, not_false_eq_true]) | (first | refine vIfE_of ?_ ?_ | refine vIfD_of ?_ ?_ | refine vIfQ_of ?_ ?_ | refine vIfV_of ?_ ?_) <;> intro _ | refine And.intro (by omega) ?_ | refine drawn_q ?_ | fail)
  case' true =>
    obtain ⟨hil, hin⟩ := hiff.1 hs
    rw [if_neg (by rintro (h' | ⟨h', _⟩); exact hb1' h'; rw [h'] at hs; cases hs)]
    obtain ⟨hid, hfl⟩ := h2'.at hil
    have hfl : s.L[i] = (ds[i]).fl := hfl
    rw [hfl] at hin
    obtain ⟨lk1, _⟩ := FI.lk g.srd hF
    have hlk := lk1 hil (by rw [hfl]; exact hin)
    rw [hfl] at hlk
    obtain ⟨d0, hd0, e1, e2, e3⟩ : ∃ d0 : DE, ds[i] = d0 ∧ d0.name = k ∧ d0.b = oB k s.L ∧ d0.safe = oS k s.L := ⟨_, rfl, hin, by unfold oB; rw [hlk]; rfl, by unfold oS; rw [hlk]; rfl⟩
    have hok2 : d0.Ok w2 := by rw [← hd0]; exact h2'.ok _ (List.getElem_mem hid)
    obtain ⟨la, rfl, fa⟩ := RecS.at flC_len h2'.recs hid
    rw [hd0] at fa
    repeat' (first | (simp (disch := omega) only [push_cast, ↓reduceIte, zA, zG, zB, zH, zI, zC, zJ, zK, zL, zD, zE, zF, zM, zN, zO, zP, zQ, reduceCtorEq, not_true_eq_false, not_false_eq_true, hd2, f20, addr_add_eq, Nat.zero_add]) | (first | refine vIfE_of ?_ ?_ | refine vIfD_of ?_ ?_ | refine vIfQ_of ?_ ?_ | refine vIfV_of ?_ ?_) <;> intro _ | refine And.intro (by omega) ?_ | refine drawn_q ?_ | fail)
    refine vStore_new rfl rfl (by intro u hu; simp at hu; rcases hu with rfl | rfl | rfl <;> rfl) ?_
    have l5 := later_alloc w2 (.cells #[.string k, .slice none 0 0, .int .i64 0] 73)
    have B5 := Blk.new w2 #[.string k, .slice none 0 0, .int .i64 0] 73
    generalize w2.alloc (.cells #[.string k, .slice none 0 0, .int .i64 0] 73) = w5 at *
    generalize hkf : w2.heap.size = kf at *
    have f25 := f2 w5 l5
    have fa5 : Go.Vc.cellsAt w5 (la.add (i * 3)) 3 = some (flC d0) := by have := RecS.get flC_len (h2'.later l5).recs hid; rw [hd0] at this; exact this
    repeat' (first | (simp (disch := omega) only [push_cast, ↓reduceIte, zA, zG, zB, zH, zI, zC, zJ, zK, zL, zD, zE, zF, zM, zN, zO, zP, zQ, reduceCtorEq, not_true_eq_false, not_false_eq_true, f25, fa5, addr_add_eq, Nat.zero_add]) | (first | refine vIfE_of ?_ ?_ | refine vIfD_of ?_ ?_ | refine vIfQ_of ?_ ?_ | refine vIfV_of ?_ ?_) <;> intro _ | refine And.intro (by omega) ?_ | refine drawn_q ?_ | fail)
    refine vStore_blk (l := [.string k, .slice none 0 0, .int .i64 0]) (xs := flC d0) B5 rfl rfl (flC_one d0) ?_
    intro w6 B6 c6
    have l6 : Later w2 w6 := Chg.later l5 c6 (by intro j hj; rw [List.mem_singleton.1 hj]; omega)
    have hok6 := hok2.later l6
    clear B5 f25 fa5 l5 c6 fa hd0
    repeat' (first | (simp (disch := omega) only [push_cast, ↓reduceIte, zA, zG, zB, zH, zI, zC, zJ, zK, zL, zD, zE, zF, zM, zN, zO, zP, zQ, reduceCtorEq, not_true_eq_false, not_false_eq_true]) | (first | refine vIfE_of ?_ ?_ | refine vIfD_of ?_ ?_ | refine vIfQ_of ?_ ?_ | refine vIfV_of ?_ ?_) <;> intro _ | refine And.intro (by omega) ?_ | refine drawn_q ?_ | fail)
  all_goals
    have hb6 := Sl.later hb2 l6
    have l7 := later_alloc w6 (.cells #[] 5)
    have own0 : OwnB (w6.alloc (.cells #[] 5)) w6.heap.size 5 (.slice (some ⟨w6.heap.size, 0, none⟩) 0 0) [] := own_lit w6 [] 5 1 0 rfl (Nat.zero_le _) (Nat.le_refl _)
    have B7 := B6.chg (Chg.of_later (ks := []) l7) (by simp)
    generalize w6.alloc (.cells #[] 5) = w7 at *
    have f71 : w7.cell? ⟨kf, 1, none⟩ = some (.slice d0.bo d0.b.length d0.bc) := B7.cell 1
    repeat' (first | (simp (disch := omega) only [push_cast, ↓reduceIte, zA, zG, zB, zH, zI, zC, zJ, zK, zL, zD, zE, zF, zM, zN, zO, zP, zQ, reduceCtorEq, not_true_eq_false, not_false_eq_true, f71, addr_add_eq, Nat.zero_add]) | (first | refine vIfE_of ?_ ?_ | refine vIfD_of ?_ ?_ | refine vIfQ_of ?_ ?_ | refine vIfV_of ?_ ?_) <;> intro _ | refine And.intro (by omega) ?_ | refine drawn_q ?_ | fail)
    refine vAppend_own Try.underlying22 ti5 rfl (by decide) own0 (sl8_n (Sl.later hok6.sl l7)) (u8vs_one _) (by unfold maxLen; rw [e2]; simp only [List.length_nil]; omega) (by rw [e2]; simp only [List.length_nil]; omega) l7.size ?_
    intro v8 w8 O8 g8 _
    have l8 : Later w6 w8 := l7.appended own0 (Nat.le_refl _) g8
    have O8 := own8_app O8
    rw [List.nil_append] at O8
    obtain ⟨o8, c8, rfl⟩ := O8.slice
    repeat' (first | (simp (disch := omega) only [push_cast, ↓reduceIte, zA, zG, zB, zH, zI, zC, zJ, zK, zL, zD, zE, zF, zM, zN, zO, zP, zQ, reduceCtorEq, not_true_eq_false, not_false_eq_true]) | (first | refine vIfE_of ?_ ?_ | refine vIfD_of ?_ ?_ | refine vIfQ_of ?_ ?_ | refine vIfV_of ?_ ?_) <;> intro _ | refine And.intro (by omega) ?_ | refine drawn_q ?_ | fail)
    refine vAppend_own Try.underlying22 ti5 rfl (by decide) O8 (sl8_n (Sl.later hb6 l8)) (u8vs_one _) (by unfold maxLen; rw [e2]; omega) (by rw [e2]; omega) l8.size ?_
    intro v9 w9 O9 g9 _
    have l9 : Later w6 w9 := l8.appended O8 (Nat.le_refl _) g9
    have O9 := own8_app O9
    obtain ⟨o9, c9, rfl⟩ := O9.slice
    have B9 := B6.chg (Chg.of_later (ks := []) l9) (by simp)
    have hfz := B9.frozen 1
    have hce : ∃ y, w9.cell? ⟨kf, 1, none⟩ = some y := ⟨_, B9.cell 1⟩
    have c10 := chg_setCell (i := 1) w9 (ks := [kf]) (k := kf) (by simp) (.slice o9 (d0.b ++ bl).length c9)
    have B10 := B9.set 1 (.slice o9 (d0.b ++ bl).length c9)
    have B10 : Blk (w9.setCell ⟨kf, 1, none⟩ (.slice o9 (d0.b ++ bl).length c9)) kf (flC ⟨k, oB k s.L ++ bl, oS k s.L, o9, c9⟩).toArray 73 := by
      have : ((flC d0).toArray.setIfInBounds 1 (.slice o9 (d0.b ++ bl).length c9)) = (flC ⟨k, oB k s.L ++ bl, oS k s.L, o9, c9⟩).toArray := by
        unfold flC
        rw [e1, e2, e3]; rfl
      rw [← this]; exact B10
    have l210 : Later w2 (w9.setCell ⟨kf, 1, none⟩ (.slice o9 (d0.b ++ bl).length c9)) := Chg.later (l6.trans l9) c10 (by intro j hj; rw [List.mem_singleton.1 hj]; omega)
    have hokd : DE.Ok (w9.setCell ⟨kf, 1, none⟩ (.slice o9 (d0.b ++ bl).length c9)) ⟨k, oB k s.L ++ bl, oS k s.L, o9, c9⟩ := by
      have hx : DE.Ok w9 ⟨k, oB k s.L ++ bl, oS k s.L, o9, c9⟩ := ⟨by rw [← e2]; exact O9.sl, by unfold DE.bv; rw [← e2]; exact InT.of_own O9⟩
      exact hx.chg c10 fun j hj => by rw [List.mem_singleton.1 hj]; exact blk_ty B9 (by decide)
    repeat' (first | (simp (disch := omega) only [push_cast, ↓reduceIte, zA, zG, zB, zH, zI, zC, zJ, zK, zL, zD, zE, zF, zM, zN, zO, zP, zQ, reduceCtorEq, not_true_eq_false, not_false_eq_true, hce, hfz, addr_add_eq, Nat.zero_add]) | (first | refine vIfE_of ?_ ?_ | refine vIfD_of ?_ ?_ | refine vIfQ_of ?_ ?_ | refine vIfV_of ?_ ?_) <;> intro _ | refine And.intro (by omega) ?_ | refine drawn_q ?_ | fail)
    generalize w9.setCell ⟨kf, 1, none⟩ (.slice o9 (d0.b ++ bl).length c9) = w10 at *
    have fr : Go.Vc.cellsAt w10 ⟨kf, 0, none⟩ 3 = some (flC ⟨k, oB k s.L ++ bl, oS k s.L, o9, c9⟩) := Blk.cellsAt (l := flC ⟨k, oB k s.L ++ bl, oS k s.L, o9, c9⟩) B10
    repeat' (first | (simp (disch := omega) only [push_cast, ↓reduceIte, zA, zG, zB, zH, zI, zC, zJ, zK, zL, zD, zE, zF, zM, zN, zO, zP, zQ, reduceCtorEq, not_true_eq_false, not_false_eq_true, fr]) | (first | refine vIfE_of ?_ ?_ | refine vIfD_of ?_ ?_ | refine vIfQ_of ?_ ?_ | refine vIfV_of ?_ ?_) <;> intro _ | refine And.intro (by omega) ?_ | refine drawn_q ?_ | fail)
    refine (set_d bm ⟨k, oB k s.L ++ bl, oS k s.L, o9, c9⟩ s.burn w10 ⟨_, ds, h2'.later l210⟩ g1 hokd).mono ?_
    rintro _ w11 ⟨h11, c11⟩
    repeat' (first | (simp (disch := omega) only [push_cast, ↓reduceIte, zA, zG, zB, zH, zI, zC, zJ, zK, zL, zD, zE, zF, zM, zN, zO, zP, zQ, reduceCtorEq, not_true_eq_false, not_false_eq_true]) | (first | refine vIfE_of ?_ ?_ | refine vIfD_of ?_ ?_ | refine vIfQ_of ?_ ?_ | refine vIfV_of ?_ ?_) <;> intro _ | refine And.intro (by omega) ?_ | refine drawn_q ?_ | fail)
    first | exact ⟨rfl, h11, c02.trans ((Chg.of_later l210).trans c11)⟩ | exact ⟨h11, c02.trans ((Chg.of_later l210).trans c11)⟩ | exact c02.trans ((Chg.of_later l210).trans c11)
end Go.Proofs.Ytmfcnooleejgmaa
end
section
set_option linter.unusedSimpArgs false
namespace Go.Proofs.Ytmfcnooleejgmaa
open Go.Vc Go.Vlt Go.Key
set_option maxRecDepth 100000
theorem name_of {s : Vst} (g : Good s) {k : ByteArray} (h : lk k s.L ≠ none) : nmOk k = true := by
  cases hp : lk k s.L with
  | none => exact absurd hp h
  | some p =>
    obtain ⟨x, hx, hn, _⟩ := lk_in hp
    rw [← hn]; exact g.names x hx
theorem cond31 {s : Vst} (g : Good s) (k : ByteArray) : (nmOk k = false ∨ lk k s.L = none) ↔ (lk k s.L).isSome = false := by
  constructor
  · rintro (h | h)
    · cases hp : lk k s.L with
      | none => rfl
      | some p => have := name_of g (k := k) (by rw [hp]; simp); rw [h] at this; cases this
    · rw [h]; rfl
  · intro h
    right; simpa using h
/-- A file where it was found, put into a new box. -/
theorem atFound {s : Vst} {w : World} {bm : Nat} {o : Option Addr} {c : Nat} {ds : List DE} {k : ByteArray} {i : Nat} (h : DV' w bm (.slice o ds.length c) ds s) (hs : Srd s.L) (hF : FI k s.L i) (hiff : (lk k s.L).isSome = true ↔ ∃ h : i < s.L.length, (s.L[i]).name = k) (h1 : (lk k s.L).isSome = true) :
    ∃ (hi : i < s.L.length) (d0 : DE) (a : Addr), o = some a ∧ d0.name = k ∧ d0.b = oB k s.L ∧ d0.safe = oS k s.L ∧ d0.Ok w ∧ (∀ w', Later w w' → Go.Vc.cellsAt w' (a.add (i * 3)) 3 = some (flC d0)) ∧ (∀ w', Later w w' → w'.cell? ((a.add (i * 3)).add 1) = some (.slice d0.bo d0.b.length d0.bc)) ∧ (s.L[i]).name = k ∧ i < ds.length := by
  obtain ⟨hil, hin⟩ := hiff.1 h1
  obtain ⟨hid, hfl⟩ := h.at hil
  obtain ⟨lk1, _⟩ := FI.lk hs hF
  have hlk := lk1 hil hin
  rw [hfl] at hlk
  obtain ⟨a, rfl, _⟩ := RecS.at flC_len h.recs hid
  refine ⟨hil, ds[i], a, rfl, by rw [hfl] at hin; exact hin, by unfold oB; rw [hlk]; rfl, by unfold oS; rw [hlk]; rfl, h.ok _ (List.getElem_mem hid), fun w' hl => RecS.get flC_len (h.later hl).recs hid, fun w' hl => RecS.cell flC_len (h.later hl).recs hid rfl, hin, hid⟩
theorem vStore_fl {K : Value → World → Prop} (d : DE) (w : World) (hK : K undef (w.alloc (.cells (flC d).toArray 73))) :
    vStoreD Try.prog 73 (some 3) (.pointer (some ⟨w.heap.size, 0, none⟩)) (.agg (flC d).toArray) K (w.alloc (.cells #[.string ⟨#[]⟩, .slice none 0 0, .int .i64 0] 73)) :=
  vStore_new rfl rfl (fun u hu => flC_one d u (by simpa using hu)) hK
theorem sync_d (bm : Nat) (s : Vst) (k : ByteArray) (w : World) (h : DV w bm s) (g : Good s) :
    FnC Try.prog 38 #[.pointer (some ⟨bm, 0, none⟩), .string k] w fun v w' => v = .int .i64 (aSync k s).1 ∧ DV w' bm (aSync k s).2 ∧ Chg w w' [bm] := by
  unfold aSync
  simp only [cond31 g k]
  refine enter38 _ _ ?_
  unfold B38
  repeat' (first | (simp (disch := omega) only [push_cast, ↓reduceIte, zA, zG, zB, zH, zI, zC, zJ, zK, zL, zD, zE, zF, zM, zN, zO, zP, zQ, reduceCtorEq, not_true_eq_false, not_false_eq_true]) | (first | refine vIfE_of ?_ ?_ | refine vIfD_of ?_ ?_ | refine vIfQ_of ?_ ?_ | refine vIfV_of ?_ ?_) <;> intro _ | refine And.intro (by omega) ?_ | refine drawn_q ?_ | fail)
  refine (find_d bm s k w h g).mono ?_
  rintro _ w1 ⟨⟨i, hF, rfl, hiff⟩, l1⟩
  have h1 := DV.later h l1
  cases hs : (lk k s.L).isSome with
  | false =>
    rw [if_pos rfl]
    repeat' (first | (simp (disch := omega) only [push_cast, ↓reduceIte, zA, zG, zB, zH, zI, zC, zJ, zK, zL, zD, zE, zF, zM, zN, zO, zP, zQ, reduceCtorEq, not_true_eq_false, not_false_eq_true]) | (first | refine vIfE_of ?_ ?_ | refine vIfD_of ?_ ?_ | refine vIfQ_of ?_ ?_ | refine vIfV_of ?_ ?_) <;> intro _ | refine And.intro (by omega) ?_ | refine drawn_q ?_ | fail)
    first | exact ⟨rfl, h1, Chg.of_later l1⟩ | exact ⟨h1, Chg.of_later l1⟩ | exact Chg.of_later l1
  | true =>
  rw [if_neg (by simp)]
  repeat' (first | (simp (disch := omega) only [push_cast, ↓reduceIte, zA, zG, zB, zH, zI, zC, zJ, zK, zL, zD, zE, zF, zM, zN, zO, zP, zQ, reduceCtorEq, not_true_eq_false, not_false_eq_true]) | (first | refine vIfE_of ?_ ?_ | refine vIfD_of ?_ ?_ | refine vIfQ_of ?_ ?_ | refine vIfV_of ?_ ?_) <;> intro _ | refine And.intro (by omega) ?_ | refine drawn_q ?_ | fail)
  refine (burnt_d bm s w1 h1 g).mono ?_
  rintro _ w2 ⟨rfl, h2, c2⟩
  have c02 : Chg w w2 [bm] := (Chg.of_later l1).trans c2
  by_cases hz : brn s.fuse = 0
  · have hd := decide_eq_true hz
    rw [if_pos hz]
    repeat' (first | (simp (disch := omega) only [push_cast, ↓reduceIte, zA, zG, zB, zH, zI, zC, zJ, zK, zL, zD, zE, zF, zM, zN, zO, zP, zQ, reduceCtorEq, not_true_eq_false, not_false_eq_true, hd]) | (first | refine vIfE_of ?_ ?_ | refine vIfD_of ?_ ?_ | refine vIfQ_of ?_ ?_ | refine vIfV_of ?_ ?_) <;> intro _ | refine And.intro (by omega) ?_ | refine drawn_q ?_ | fail)
    first | exact ⟨rfl, h2, c02⟩ | exact ⟨h2, c02⟩ | exact c02
  have hd := decide_eq_false hz
  rw [if_neg hz]
  obtain ⟨lv, ds, h2⟩ := h2
  obtain ⟨lo, lc, rfl, hc1, hc2, hdl⟩ := h2.L
  obtain ⟨hil, d0, la, rfl, e1, e2, e3, hok, hat, _, _, hid⟩ := atFound h2 g.srd hF hiff hs
  have f2 : w2.cell? ⟨bm, 2, none⟩ = some (.slice (some la) ds.length lc) := h2.blk.cell 2
  have fa := hat w2 (Later.refl _)
  repeat' (first | (simp (disch := omega) only [push_cast, ↓reduceIte, zA, zG, zB, zH, zI, zC, zJ, zK, zL, zD, zE, zF, zM, zN, zO, zP, zQ, reduceCtorEq, not_true_eq_false, not_false_eq_true, hd, f2, fa, addr_add_eq, Nat.zero_add]) | (first | refine vIfE_of ?_ ?_ | refine vIfD_of ?_ ?_ | refine vIfQ_of ?_ ?_ | refine vIfV_of ?_ ?_) <;> intro _ | refine And.intro (by omega) ?_ | refine drawn_q ?_ | fail)
  refine vStore_fl d0 w2 ?_
  have l3 := later_alloc w2 (.cells (flC d0).toArray 73)
  have B3 := Blk.new w2 (flC d0).toArray 73
  generalize w2.alloc (.cells (flC d0).toArray 73) = w3 at *
  generalize hkf : w2.heap.size = kf at *
  have f31 : w3.cell? ⟨kf, 1, none⟩ = some (.slice d0.bo d0.b.length d0.bc) := B3.cell 1
  have hfz := B3.frozen 2
  have hce : ∃ y, w3.cell? ⟨kf, 2, none⟩ = some y := ⟨_, B3.cell 2⟩
  have c4 := chg_setCell (i := 2) w3 (ks := [kf]) (k := kf) (by simp) (.int .i64 (d0.b.length : Int))
  have B4 : Blk (w3.setCell ⟨kf, 2, none⟩ (.int .i64 (d0.b.length : Int))) kf (flC ⟨k, oB k s.L, (oB k s.L).length, d0.bo, d0.bc⟩).toArray 73 := by
    have : ((flC d0).toArray.setIfInBounds 2 (.int .i64 (d0.b.length : Int))) = (flC ⟨k, oB k s.L, (oB k s.L).length, d0.bo, d0.bc⟩).toArray := by
      unfold flC
      rw [e1, e2]; rfl
    rw [← this]; exact B3.set 2 _
  have l4 : Later w2 (w3.setCell ⟨kf, 2, none⟩ (.int .i64 (d0.b.length : Int))) := Chg.later l3 c4 (by intro j hj; rw [List.mem_singleton.1 hj]; omega)
  repeat' (first | (simp (disch := omega) only [push_cast, ↓reduceIte, zA, zG, zB, zH, zI, zC, zJ, zK, zL, zD, zE, zF, zM, zN, zO, zP, zQ, reduceCtorEq, not_true_eq_false, not_false_eq_true, f31, hce, hfz, addr_add_eq, Nat.zero_add]) | (first | refine vIfE_of ?_ ?_ | refine vIfD_of ?_ ?_ | refine vIfQ_of ?_ ?_ | refine vIfV_of ?_ ?_) <;> intro _ | refine And.intro (by omega) ?_ | refine drawn_q ?_ | fail)
  generalize w3.setCell ⟨kf, 2, none⟩ (.int .i64 (d0.b.length : Int)) = w4 at *
  have hokd : DE.Ok w4 ⟨k, oB k s.L, (oB k s.L).length, d0.bo, d0.bc⟩ := by
    have hx := hok.later l4
    exact ⟨by have := hx.sl; unfold DE.bv at this ⊢; rw [e2] at this; exact this, by have := hx.u8; unfold DE.bv at this ⊢; rw [e2] at this; exact this⟩
  have fr : Go.Vc.cellsAt w4 ⟨kf, 0, none⟩ 3 = some (flC ⟨k, oB k s.L, (oB k s.L).length, d0.bo, d0.bc⟩) := Blk.cellsAt (l := flC ⟨k, oB k s.L, (oB k s.L).length, d0.bo, d0.bc⟩) B4
  repeat' (first | (simp (disch := omega) only [push_cast, ↓reduceIte, zA, zG, zB, zH, zI, zC, zJ, zK, zL, zD, zE, zF, zM, zN, zO, zP, zQ, reduceCtorEq, not_true_eq_false, not_false_eq_true, fr]) | (first | refine vIfE_of ?_ ?_ | refine vIfD_of ?_ ?_ | refine vIfQ_of ?_ ?_ | refine vIfV_of ?_ ?_) <;> intro _ | refine And.intro (by omega) ?_ | refine drawn_q ?_ | fail)
  refine (set_d bm ⟨k, oB k s.L, (oB k s.L).length, d0.bo, d0.bc⟩ s.burn w4 ⟨_, ds, h2.later l4⟩ g.burn hokd).mono ?_
  rintro _ w5 ⟨h5, c5⟩
  repeat' (first | (simp (disch := omega) only [push_cast, ↓reduceIte, zA, zG, zB, zH, zI, zC, zJ, zK, zL, zD, zE, zF, zM, zN, zO, zP, zQ, reduceCtorEq, not_true_eq_false, not_false_eq_true]) | (first | refine vIfE_of ?_ ?_ | refine vIfD_of ?_ ?_ | refine vIfQ_of ?_ ?_ | refine vIfV_of ?_ ?_) <;> intro _ | refine And.intro (by omega) ?_ | refine drawn_q ?_ | fail)
  first | exact ⟨rfl, h5, c02.trans ((Chg.of_later l4).trans c5)⟩ | exact ⟨h5, c02.trans ((Chg.of_later l4).trans c5)⟩ | exact c02.trans ((Chg.of_later l4).trans c5)
theorem delete_d (bm : Nat) (s : Vst) (k : ByteArray) (w : World) (h : DV w bm s) (g : Good s) :
    FnC Try.prog 40 #[.pointer (some ⟨bm, 0, none⟩), .string k] w fun v w' => v = .int .i64 (aDel k s).1 ∧ DV w' bm (aDel k s).2 ∧ Chg w w' [bm] := by
  unfold aDel
  simp only [cond31 g k]
  refine enter40 _ _ ?_
  unfold B40
  repeat' (first | (simp (disch := omega) only [push_cast, ↓reduceIte, zA, zG, zB, zH, zI, zC, zJ, zK, zL, zD, zE, zF, zM, zN, zO, zP, zQ, reduceCtorEq, not_true_eq_false, not_false_eq_true]) | (first | refine vIfE_of ?_ ?_ | refine vIfD_of ?_ ?_ | refine vIfQ_of ?_ ?_ | refine vIfV_of ?_ ?_) <;> intro _ | refine And.intro (by omega) ?_ | refine drawn_q ?_ | fail)
  refine (find_d bm s k w h g).mono ?_
  rintro _ w1 ⟨⟨i, hF, rfl, hiff⟩, l1⟩
  have h1 := DV.later h l1
  cases hs : (lk k s.L).isSome with
  | false =>
    rw [if_pos rfl]
    repeat' (first | (simp (disch := omega) only [push_cast, ↓reduceIte, zA, zG, zB, zH, zI, zC, zJ, zK, zL, zD, zE, zF, zM, zN, zO, zP, zQ, reduceCtorEq, not_true_eq_false, not_false_eq_true]) | (first | refine vIfE_of ?_ ?_ | refine vIfD_of ?_ ?_ | refine vIfQ_of ?_ ?_ | refine vIfV_of ?_ ?_) <;> intro _ | refine And.intro (by omega) ?_ | refine drawn_q ?_ | fail)
    first | exact ⟨rfl, h1, Chg.of_later l1⟩ | exact ⟨h1, Chg.of_later l1⟩ | exact Chg.of_later l1
  | true =>
  rw [if_neg (by simp)]
  repeat' (first | (simp (disch := omega) only [push_cast, ↓reduceIte, zA, zG, zB, zH, zI, zC, zJ, zK, zL, zD, zE, zF, zM, zN, zO, zP, zQ, reduceCtorEq, not_true_eq_false, not_false_eq_true]) | (first | refine vIfE_of ?_ ?_ | refine vIfD_of ?_ ?_ | refine vIfQ_of ?_ ?_ | refine vIfV_of ?_ ?_) <;> intro _ | refine And.intro (by omega) ?_ | refine drawn_q ?_ | fail)
  refine (burnt_d bm s w1 h1 g).mono ?_
  rintro _ w2 ⟨rfl, h2, c2⟩
  have c02 : Chg w w2 [bm] := (Chg.of_later l1).trans c2
  by_cases hz : brn s.fuse = 0
  · have hd := decide_eq_true hz
    rw [if_pos hz]
    repeat' (first | (simp (disch := omega) only [push_cast, ↓reduceIte, zA, zG, zB, zH, zI, zC, zJ, zK, zL, zD, zE, zF, zM, zN, zO, zP, zQ, reduceCtorEq, not_true_eq_false, not_false_eq_true, hd]) | (first | refine vIfE_of ?_ ?_ | refine vIfD_of ?_ ?_ | refine vIfQ_of ?_ ?_ | refine vIfV_of ?_ ?_) <;> intro _ | refine And.intro (by omega) ?_ | refine drawn_q ?_ | fail)
    first | exact ⟨rfl, h2, c02⟩ | exact ⟨h2, c02⟩ | exact c02
  have hd := decide_eq_false hz
  rw [if_neg hz]
  have hx := hiff.1 hs
  repeat' (first | (simp (disch := omega) only [push_cast, ↓reduceIte, zA, zG, zB, zH, zI, zC, zJ, zK, zL, zD, zE, zF, zM, zN, zO, zP, zQ, reduceCtorEq, not_true_eq_false, not_false_eq_true, hd]) | (first | refine vIfE_of ?_ ?_ | refine vIfD_of ?_ ?_ | refine vIfQ_of ?_ ?_ | refine vIfV_of ?_ ?_) <;> intro _ | refine And.intro (by omega) ?_ | refine drawn_q ?_ | fail)
  refine (drop_d bm i s.burn w2 h2 g.burn hx.1).mono ?_
  rintro _ w3 ⟨⟨lv3, ds3, h3, _⟩, c3⟩
  rw [FI.del hF hx]
  repeat' (first | (simp (disch := omega) only [push_cast, ↓reduceIte, zA, zG, zB, zH, zI, zC, zJ, zK, zL, zD, zE, zF, zM, zN, zO, zP, zQ, reduceCtorEq, not_true_eq_false, not_false_eq_true]) | (first | refine vIfE_of ?_ ?_ | refine vIfD_of ?_ ?_ | refine vIfQ_of ?_ ?_ | refine vIfV_of ?_ ?_) <;> intro _ | refine And.intro (by omega) ?_ | refine drawn_q ?_ | fail)
  first | exact ⟨rfl, ⟨_, _, h3⟩, c02.trans c3⟩ | exact ⟨⟨_, _, h3⟩, c02.trans c3⟩ | exact c02.trans c3
theorem rename_d (bm : Nat) (s : Vst) (k k2 : ByteArray) (w : World) (h : DV w bm s) (g : Good s) (hk2 : k2.size ≤ 1000000000) :
    FnC Try.prog 39 #[.pointer (some ⟨bm, 0, none⟩), .string k, .string k2] w fun v w' => v = .int .i64 (aRen k k2 s).1 ∧ DV w' bm (aRen k k2 s).2 ∧ Chg w w' [bm] := by
  unfold aRen
  have hcond : (nmOk k = false ∨ lk k s.L = none ∨ nmOk k2 = false) ↔ ((lk k s.L).isSome = false ∨ nmOk k2 = false) := by rw [← or_assoc, cond31 g k]
  simp only [hcond]
  refine enter39 _ _ _ ?_
  unfold B39
  repeat' (first | (simp (disch := omega) only [push_cast, ↓reduceIte, zA, zG, zB, zH, zI, zC, zJ, zK, zL, zD, zE, zF, zM, zN, zO, zP, zQ, reduceCtorEq, not_true_eq_false, not_false_eq_true]) | (first | refine vIfE_of ?_ ?_ | refine vIfD_of ?_ ?_ | refine vIfQ_of ?_ ?_ | refine vIfV_of ?_ ?_) <;> intro _ | refine And.intro (by omega) ?_ | refine drawn_q ?_ | fail)
  refine (find_d bm s k w h g).mono ?_
  rintro _ w1 ⟨⟨i, hF, rfl, hiff⟩, l1⟩
  have h1 := DV.later h l1
  repeat' (first | (simp (disch := omega) only [push_cast, ↓reduceIte, zA, zG, zB, zH, zI, zC, zJ, zK, zL, zD, zE, zF, zM, zN, zO, zP, zQ, reduceCtorEq, not_true_eq_false, not_false_eq_true]) | (first | refine vIfE_of ?_ ?_ | refine vIfD_of ?_ ?_ | refine vIfQ_of ?_ ?_ | refine vIfV_of ?_ ?_) <;> intro _ | refine And.intro (by omega) ?_ | refine drawn_q ?_ | fail)
  refine (dname_c k2 w1 (by omega)).mono ?_
  rintro _ w0 ⟨rfl, hw0⟩
  obtain rfl := hw0.symm
  cases hs : (lk k s.L).isSome with
  | false =>
    rw [if_pos (.inl rfl)]
    repeat' (first | (simp (disch := omega) only [push_cast, ↓reduceIte, zA, zG, zB, zH, zI, zC, zJ, zK, zL, zD, zE, zF, zM, zN, zO, zP, zQ, reduceCtorEq, not_true_eq_false, not_false_eq_true]) | (first | refine vIfE_of ?_ ?_ | refine vIfD_of ?_ ?_ | refine vIfQ_of ?_ ?_ | refine vIfV_of ?_ ?_) <;> intro _ | refine And.intro (by omega) ?_ | refine drawn_q ?_ | fail)
    first | exact ⟨rfl, h1, Chg.of_later l1⟩ | exact ⟨h1, Chg.of_later l1⟩ | exact Chg.of_later l1
  | true =>
  cases hn2 : nmOk k2 with
  | false =>
    rw [if_pos (.inr rfl)]
    repeat' (first | (simp (disch := omega) only [push_cast, ↓reduceIte, zA, zG, zB, zH, zI, zC, zJ, zK, zL, zD, zE, zF, zM, zN, zO, zP, zQ, reduceCtorEq, not_true_eq_false, not_false_eq_true]) | (first | refine vIfE_of ?_ ?_ | refine vIfD_of ?_ ?_ | refine vIfQ_of ?_ ?_ | refine vIfV_of ?_ ?_) <;> intro _ | refine And.intro (by omega) ?_ | refine drawn_q ?_ | fail)
    first | exact ⟨rfl, h1, Chg.of_later l1⟩ | exact ⟨h1, Chg.of_later l1⟩ | exact Chg.of_later l1
  | true =>
  rw [if_neg (by simp)]
  repeat' (first | (simp (disch := omega) only [push_cast, ↓reduceIte, zA, zG, zB, zH, zI, zC, zJ, zK, zL, zD, zE, zF, zM, zN, zO, zP, zQ, reduceCtorEq, not_true_eq_false, not_false_eq_true]) | (first | refine vIfE_of ?_ ?_ | refine vIfD_of ?_ ?_ | refine vIfQ_of ?_ ?_ | refine vIfV_of ?_ ?_) <;> intro _ | refine And.intro (by omega) ?_ | refine drawn_q ?_ | fail)
  refine (burnt_d bm s w1 h1 g).mono ?_
  rintro _ w2 ⟨rfl, h2, c2⟩
  have c02 : Chg w w2 [bm] := (Chg.of_later l1).trans c2
  by_cases hz : brn s.fuse = 0
  · have hd := decide_eq_true hz
    rw [if_pos hz]
    repeat' (first | (simp (disch := omega) only [push_cast, ↓reduceIte, zA, zG, zB, zH, zI, zC, zJ, zK, zL, zD, zE, zF, zM, zN, zO, zP, zQ, reduceCtorEq, not_true_eq_false, not_false_eq_true, hd]) | (first | refine vIfE_of ?_ ?_ | refine vIfD_of ?_ ?_ | refine vIfQ_of ?_ ?_ | refine vIfV_of ?_ ?_) <;> intro _ | refine And.intro (by omega) ?_ | refine drawn_q ?_ | fail)
    first | exact ⟨rfl, h2, c02⟩ | exact ⟨h2, c02⟩ | exact c02
  have hd := decide_eq_false hz
  rw [if_neg hz]
  have hx := hiff.1 hs
  obtain ⟨lv, ds, h2⟩ := h2
  obtain ⟨lo, lc, rfl, hc1, hc2, hdl⟩ := h2.L
  obtain ⟨hil, d0, la, rfl, e1, e2, e3, hok, hat, _, _, hid⟩ := atFound h2 g.srd hF hiff hs
  have f2 : w2.cell? ⟨bm, 2, none⟩ = some (.slice (some la) ds.length lc) := h2.blk.cell 2
  have hbm := h2.blk.lt
  have fa := hat w2 (Later.refl _)
  repeat' (first | (simp (disch := omega) only [push_cast, ↓reduceIte, zA, zG, zB, zH, zI, zC, zJ, zK, zL, zD, zE, zF, zM, zN, zO, zP, zQ, reduceCtorEq, not_true_eq_false, not_false_eq_true, hd, f2, fa, addr_add_eq, Nat.zero_add]) | (first | refine vIfE_of ?_ ?_ | refine vIfD_of ?_ ?_ | refine vIfQ_of ?_ ?_ | refine vIfV_of ?_ ?_) <;> intro _ | refine And.intro (by omega) ?_ | refine drawn_q ?_ | fail)
  refine vStore_fl d0 w2 ?_
  have l3 := later_alloc w2 (.cells (flC d0).toArray 73)
  have B3 := Blk.new w2 (flC d0).toArray 73
  have hsz3 := World.size_alloc w2 (.cells (flC d0).toArray 73)
  generalize w2.alloc (.cells (flC d0).toArray 73) = w3 at *
  generalize hkf : w2.heap.size = kf at *
  have h3 := h2.later l3
  have hok3 := hok.later l3
  have g3 : Good ⟨s.room, brn s.fuse, s.L.take i ++ s.L.drop (i + 1)⟩ := by
    have := del_good g k (brn s.fuse) (brn_rng g.fuse)
    rw [FI.del hF hx] at this; exact this
  repeat' (first | (simp (disch := omega) only [push_cast, ↓reduceIte, zA, zG, zB, zH, zI, zC, zJ, zK, zL, zD, zE, zF, zM, zN, zO, zP, zQ, reduceCtorEq, not_true_eq_false, not_false_eq_true]) | (first | refine vIfE_of ?_ ?_ | refine vIfD_of ?_ ?_ | refine vIfQ_of ?_ ?_ | refine vIfV_of ?_ ?_) <;> intro _ | refine And.intro (by omega) ?_ | refine drawn_q ?_ | fail)
  refine (drop_d bm i s.burn w3 ⟨_, ds, h3⟩ g.burn hx.1).mono ?_
  rintro _ w4 ⟨⟨lv4, ds4, h4, j4, hj4, hj4'⟩, c4⟩
  have B4 := B3.chg c4 (by simp; omega)
  have hok4 := hok3.chg c4 h3.box8
  have hfz := B4.frozen 0
  have hce : ∃ y, w4.cell? ⟨kf, 0, none⟩ = some y := ⟨_, B4.cell 0⟩
  have c5 := chg_setCell (i := 0) w4 (ks := [kf]) (k := kf) (by simp) (.string k2)
  have B5 : Blk (w4.setCell ⟨kf, 0, none⟩ (.string k2)) kf (flC ⟨k2, oB k s.L, oS k s.L, d0.bo, d0.bc⟩).toArray 73 := by
    have : ((flC d0).toArray.setIfInBounds 0 (.string k2)) = (flC ⟨k2, oB k s.L, oS k s.L, d0.bo, d0.bc⟩).toArray := by
      unfold flC
      rw [e2, e3]; rfl
    rw [← this]; exact B4.set 0 _
  have hboxF : ∀ j ∈ [kf], ∀ cs, ¬ Blk w4 j cs 5 := fun j hj => by rw [List.mem_singleton.1 hj]; exact blk_ty B4 (by decide)
  have hjk : j4 ∉ [kf] := by simp; omega
  have h5 : DV' (w4.setCell ⟨kf, 0, none⟩ (.string k2)) bm lv4 ds4 ⟨s.room, brn s.fuse, s.L.take i ++ s.L.drop (i + 1)⟩ :=
    ⟨h4.blk.chg c5 (by simp; omega), SlN.chg h4.recs c5 hjk hj4, InT.chg_at h4.inT c5 hj4 hjk, h4.eq, fun d hd => (h4.ok d hd).chg c5 hboxF⟩
  have hokd : DE.Ok (w4.setCell ⟨kf, 0, none⟩ (.string k2)) ⟨k2, oB k s.L, oS k s.L, d0.bo, d0.bc⟩ := by
    have hx := hok4.chg c5 hboxF
    exact ⟨by have := hx.sl; unfold DE.bv at this ⊢; rw [e2] at this; exact this, by have := hx.u8; unfold DE.bv at this ⊢; rw [e2] at this; exact this⟩
  have c25 : Chg w2 (w4.setCell ⟨kf, 0, none⟩ (.string k2)) [bm] := by
    have h34 := (Chg.of_later (ks := [bm]) l3).trans c4
    refine ⟨c5.os.trans h34.os, c5.tape.trans h34.tape, c5.output.trans h34.output, Nat.le_trans h34.size c5.size, fun j hj hn => ?_⟩
    rw [c5.block j (by have := h34.size; omega) (by simp; omega)]
    exact h34.block j hj hn
  repeat' (first | (simp (disch := omega) only [push_cast, ↓reduceIte, zA, zG, zB, zH, zI, zC, zJ, zK, zL, zD, zE, zF, zM, zN, zO, zP, zQ, reduceCtorEq, not_true_eq_false, not_false_eq_true, hce, hfz, addr_add_eq, Nat.zero_add]) | (first | refine vIfE_of ?_ ?_ | refine vIfD_of ?_ ?_ | refine vIfQ_of ?_ ?_ | refine vIfV_of ?_ ?_) <;> intro _ | refine And.intro (by omega) ?_ | refine drawn_q ?_ | fail)
  generalize w4.setCell ⟨kf, 0, none⟩ (.string k2) = w5 at *
  have fr : Go.Vc.cellsAt w5 ⟨kf, 0, none⟩ 3 = some (flC ⟨k2, oB k s.L, oS k s.L, d0.bo, d0.bc⟩) := Blk.cellsAt (l := flC ⟨k2, oB k s.L, oS k s.L, d0.bo, d0.bc⟩) B5
  repeat' (first | (simp (disch := omega) only [push_cast, ↓reduceIte, zA, zG, zB, zH, zI, zC, zJ, zK, zL, zD, zE, zF, zM, zN, zO, zP, zQ, reduceCtorEq, not_true_eq_false, not_false_eq_true, fr]) | (first | refine vIfE_of ?_ ?_ | refine vIfD_of ?_ ?_ | refine vIfQ_of ?_ ?_ | refine vIfV_of ?_ ?_) <;> intro _ | refine And.intro (by omega) ?_ | refine drawn_q ?_ | fail)
  refine (set_d bm ⟨k2, oB k s.L, oS k s.L, d0.bo, d0.bc⟩ _ w5 ⟨_, ds4, h5⟩ g3 hokd).mono ?_
  rintro _ w6 ⟨h6, c6⟩
  rw [FI.del hF hx]
  repeat' (first | (simp (disch := omega) only [push_cast, ↓reduceIte, zA, zG, zB, zH, zI, zC, zJ, zK, zL, zD, zE, zF, zM, zN, zO, zP, zQ, reduceCtorEq, not_true_eq_false, not_false_eq_true]) | (first | refine vIfE_of ?_ ?_ | refine vIfD_of ?_ ?_ | refine vIfQ_of ?_ ?_ | refine vIfV_of ?_ ?_) <;> intro _ | refine And.intro (by omega) ?_ | refine drawn_q ?_ | fail)
  first | exact ⟨rfl, h6, c02.trans (c25.trans c6)⟩ | exact ⟨h6, c02.trans (c25.trans c6)⟩ | exact c02.trans (c25.trans c6)
theorem read_d (bm : Nat) (s : Vst) (k : ByteArray) (w : World) (h : DV w bm s) (g : Good s) : FnC Try.prog 26 #[.pointer (some ⟨bm, 0, none⟩), .string k] w fun v w' => (∃ x, v = .tuple #[x, .bool (lk k s.L).isSome]) ∧ Later w w' := by
  refine enter26 _ _ ?_
  unfold B26
  repeat' (first | (simp (disch := omega) only [push_cast, ↓reduceIte, zA, zG, zB, zH, zI, zC, zJ, zK, zL, zD, zE, zF, zM, zN, zO, zP, zQ, reduceCtorEq, not_true_eq_false, not_false_eq_true]) | (first | refine vIfE_of ?_ ?_ | refine vIfD_of ?_ ?_ | refine vIfQ_of ?_ ?_ | refine vIfV_of ?_ ?_) <;> intro _ | refine And.intro (by omega) ?_ | refine drawn_q ?_ | fail)
  refine (find_d bm s k w h g).mono ?_
  rintro _ w1 ⟨⟨i, hF, rfl, hiff⟩, l1⟩
  obtain ⟨lv, ds, h1⟩ := DV.later h l1
  obtain ⟨lo, lc, rfl, hc1, hc2, hdl⟩ := h1.L
  cases hs : (lk k s.L).isSome with
  | false =>
    repeat' (first | (simp (disch := omega) only [push_cast, ↓reduceIte, zA, zG, zB, zH, zI, zC, zJ, zK, zL, zD, zE, zF, zM, zN, zO, zP, zQ, reduceCtorEq, not_true_eq_false, not_false_eq_true]) | (first | refine vIfE_of ?_ ?_ | refine vIfD_of ?_ ?_ | refine vIfQ_of ?_ ?_ | refine vIfV_of ?_ ?_) <;> intro _ | refine And.intro (by omega) ?_ | refine drawn_q ?_ | fail)
    exact ⟨⟨_, rfl⟩, l1⟩
  | true =>
    obtain ⟨hil, d0, la, rfl, e1, e2, e3, hok, _, hcell, _, hid⟩ := atFound h1 g.srd hF hiff hs
    have f2 : w1.cell? ⟨bm, 2, none⟩ = some (.slice (some la) ds.length lc) := h1.blk.cell 2
    have fa := hcell w1 (Later.refl _)
    repeat' (first | (simp (disch := omega) only [push_cast, ↓reduceIte, zA, zG, zB, zH, zI, zC, zJ, zK, zL, zD, zE, zF, zM, zN, zO, zP, zQ, reduceCtorEq, not_true_eq_false, not_false_eq_true, f2, fa, addr_add_eq, Nat.zero_add]) | (first | refine vIfE_of ?_ ?_ | refine vIfD_of ?_ ?_ | refine vIfQ_of ?_ ?_ | refine vIfV_of ?_ ?_) <;> intro _ | refine And.intro (by omega) ?_ | refine drawn_q ?_ | fail)
    exact ⟨⟨_, rfl⟩, l1⟩
end Go.Proofs.Ytmfcnooleejgmaa
end
section
set_option linter.unusedSimpArgs false
namespace Go.Vc
open Go.RowKit in
/-- An append to an empty literal. -/
theorem vAppend_fresh {P : Program} {w : World} {K : Value → World → Prop} {t e ty : TypeId} {z : Value} {s b : Nat} (ht : P.underlying t = some (.slice e)) (hi : (P.info? e).map (fun i => (i.zero, i.size, i.bytes)) = some (some z, s, b)) (hzs : z.cells.size = s) (hsz : 0 < s)
    {db : Nat} {x : Value} {m : Nat} {news : List Value} (hx : SlN w s x m news) (h63 : m ≤ maxLen) (hb : m * b ≤ 140737488355328)
    (hK : ∀ v' w', (m = 0 → v' = .slice (some ⟨db, 0, none⟩) 0 0 ∧ w' = w) → (0 < m → w'.ownsRow w.heap.size e s v' m news ∧ Later w w') → K v' w') : vAppend P #[t, t] ty #[.slice (some ⟨db, 0, none⟩) 0 0, x] K w := by
  obtain ⟨i, hi1, hz, hsi, hbi⟩ := info_parts hi
  unfold vAppend
  obtain ⟨hl, hr⟩ := hx
  rcases hr with ⟨rfl, rfl⟩ | ⟨ad, c, rfl, hc1, hc2, hc3⟩
  · rw [run_val_pure (run_append_nil_src ht hi (some ⟨db, 0, none⟩) 0 0 (Nat.le_refl _) (fun ho => by cases ho))]
    exact hK _ _ (fun _ => ⟨rfl, rfl⟩) (fun h => absurd h (Nat.lt_irrefl _))
  · by_cases hm : m = 0
    · subst hm
      have hn : news = [] := List.eq_nil_of_length_eq_zero (by simpa using hl)
      subst hn
      have hrun := run_append_room_cells (P := P) w t ty e i ht hi1 db 0 0 0 ad 0 c [] (by simp) (fun j u h => by simp at h) (fun u h => by simp at h) (by omega) (fun j h => by simp at h) (fun j h => by simp at h)
      rw [run_val_pure hrun]
      exact hK _ _ (fun _ => ⟨rfl, rfl⟩) (fun h => absurd h (Nat.lt_irrefl _))
    · obtain ⟨v', w', hrun, ho, hg⟩ := run_append_arg_grows (P := P) w t ty e i z s b ht hi1 hz hsi hbi hzs hsz ⟨db, 0, none⟩ 0 0 [] (by simp) (fun j u h => by simp at h) ad m c news hl hc3 (by omega) (by omega) (by simpa using hb)
      rw [run_val_pure hrun]
      refine hK _ _ (fun h => absurd h hm) (fun _ => ⟨by simpa using ho, hg.os, hg.tape, hg.output, hg.size, fun k hk => hg.block k hk (by simp)⟩)
/-- An append to what hangs on the world. -/
theorem nR_app {P : Program} {args : Array Operand} {ts : Array TypeId} {ty : TypeId} {rs : List Nat} {Ns : NS} {σ : Env} {w : World} {Kv : Value → Prop} {Kn : (Value → World → Prop) → Prop} (V' : Value → World → Prop) (hV' : Stb w V')
    (h : ∀ σ' w', Later w w' → psis Ns σ w' σ' rs → vAppend P ts ty (args.map (ev σ')) (fun v w'' => Later w' w'' ∧ V' v w'') w') (hk : Kn V') : nR P (.call ⟨.builtin .append, args, ts⟩) ty rs Ns σ w Kv Kn :=
  .inr ⟨V', hV', fun σ' w' hl hp => nUp_val (h σ' w' hl hp), hk⟩
/-- A literal's row of what hangs on the world. -/
theorem nR_bs {P : Program} {t n : Nat} {ps : Array (Nat × Operand)} {ty : TypeId} {rs : List Nat} {Ns : NS} {σ : Env} {w : World} {Kv : Value → Prop} {Kn : (Value → World → Prop) → Prop} (V' : Value → World → Prop) (hV' : Stb w V')
    (h : ∀ σ' w', Later w w' → psis Ns σ w' σ' rs → vBuildSlice P t n (ps.map fun (i, x) => (i, ev σ' x)) (fun v w'' => Later w' w'' ∧ V' v w'') w') (hk : Kn V') : nR P (.buildSlice t n ps) ty rs Ns σ w Kv Kn :=
  .inr ⟨V', hV', fun σ' w' hl hp => nUp_val (h σ' w' hl hp), hk⟩
end Go.Vc
namespace Go.Proofs.Ytmfcnooleejgmaa
open Go.Vc Go.Vlt Go.Key
set_option maxRecDepth 100000
theorem list_d (bm : Nat) (s : Vst) (w : World) (h : DV w bm s) (g : Good s) : FnC Try.prog 42 #[.pointer (some ⟨bm, 0, none⟩)] w fun v w' => OwnN w' w.heap.size v (s.L.map Fl.name) ∧ Later w w' := by
  obtain ⟨lv, ds, h⟩ := h
  obtain ⟨o, c, rfl, hc1, hc2, hlen⟩ := h.L
  have f2 : ∀ w', Later w w' → w'.cell? ⟨bm, 2, none⟩ = some (.slice o ds.length c) := fun w' hl => (h.later hl).blk.cell 2
  have hsl := g.len
  refine enter42 _ ?_
  unfold B42
  repeat' (first | (simp (disch := omega) only [push_cast, ↓reduceIte, zA, zG, zB, zH, zI, zC, zJ, zK, zL, zD, zE, zF, zM, zN, zO, zP, zQ, reduceCtorEq, not_true_eq_false, not_false_eq_true]) | (first | refine vIfE_of ?_ ?_ | refine vIfD_of ?_ ?_ | refine vIfQ_of ?_ ?_ | refine vIfV_of ?_ ?_) <;> intro _ | refine And.intro (by omega) ?_ | refine drawn_q ?_ | fail)
  refine vc_loop W42_0 (fun t : Nat × Value => [(3, t.2), (4, .int .i64 (t.1 : Int))]) (fun t w' => t.1 ≤ ds.length ∧ Later w w' ∧ OwnN w' w.heap.size t.2 ((s.L.take t.1).map Fl.name)) (fun t => ds.length - t.1) (0, .slice none 0 0) (by decide) ?_ ?_ ?_
  · simp (disch := omega) only [push_cast, ↓reduceIte, zA, zG, zB, zH, zI, zC, zJ, zK, zL, zD, zE, zF, zM, zN, zO, zP, zQ, reduceCtorEq, not_true_eq_false, not_false_eq_true]
    try rfl
  · exact ⟨Nat.zero_le _, Later.refl _, own_nil _ _ _ _⟩
  rintro ⟨i, ov⟩ uu w1 ⟨hi, l1, hO⟩
  dsimp only at hi hO
  obtain ⟨oo, oc, rfl⟩ := OwnN.slice hO
  have hln : ((s.L.take i).map Fl.name).length = i := by simp; omega
  have f21 := f2 w1 l1
  by_cases hlt : i < ds.length
  · have hd : decide ((i : Int) < (ds.length : Int)) = true := decide_eq_true (by omega)
    have hil : i < s.L.length := by omega
    obtain ⟨hid, hfl⟩ := h.at hil
    obtain ⟨a, rfl, _⟩ := RecS.at flC_len h.recs hlt
    have hn : w1.cell? ((a.add (i * 3)).add 0) = some (.string (ds[i]).name) := RecS.cell flC_len (h.later l1).recs hlt rfl
    rw [addr_add_zero] at hn
    have hnm : (ds[i]).name = (s.L[i]).name := by rw [hfl]; rfl
    have hsn : (s.L.take (i + 1)).map Fl.name = (s.L.take i).map Fl.name ++ [(ds[i]).name] := by rw [take_snoc s.L i hil, List.map_append, hnm]; rfl
    repeat' (first | (simp (disch := omega) only [push_cast, ↓reduceIte, zA, zG, zB, zH, zI, zC, zJ, zK, zL, zD, zE, zF, zM, zN, zO, zP, zQ, reduceCtorEq, not_true_eq_false, not_false_eq_true, f21, hd, hn, addr_add_eq, addr_add_zero, Nat.zero_add]) | (first | refine vIfE_of ?_ ?_ | refine vIfD_of ?_ ?_ | refine vIfQ_of ?_ ?_ | refine vIfV_of ?_ ?_) <;> intro _ | refine And.intro (by omega) ?_ | refine drawn_q ?_ | fail)
    refine vAppend_own Try.underlying40 ti9 rfl (by decide) (own_alloc hO _) (Sl.one w1 (.string (ds[i]).name) 9) (by simp [Value.oneCell']) (by unfold maxLen; rw [hln]; simp only [List.length_cons, List.length_nil]; omega) (by rw [hln]; simp only [List.length_cons, List.length_nil]; omega) (by rw [World.size_alloc]; have := l1.size; omega) ?_
    intro v2 w2 O2 g2 _
    have la := later_alloc w1 (.cells #[.string (ds[i]).name] 9)
    have l2 : Later w w2 := (l1.trans la).appended (own_alloc hO _) (Nat.le_refl _) g2
    have O2 : OwnN w2 w.heap.size v2 ((s.L.take (i + 1)).map Fl.name) := by rw [hsn]; simpa [OwnN] using O2
    repeat' (first | (simp (disch := omega) only [push_cast, ↓reduceIte, zA, zG, zB, zH, zI, zC, zJ, zK, zL, zD, zE, zF, zM, zN, zO, zP, zQ, reduceCtorEq, not_true_eq_false, not_false_eq_true]) | (first | refine vIfE_of ?_ ?_ | refine vIfD_of ?_ ?_ | refine vIfQ_of ?_ ?_ | refine vIfV_of ?_ ?_) <;> intro _ | refine And.intro (by omega) ?_ | refine drawn_q ?_ | fail)
    exact ⟨rfl, (i + 1, v2), by simp (disch := omega) only [push_cast, ↓reduceIte, zA, zG, zB, zH, zI, zC, zJ, zK, zL, zD, zE, zF, zM, zN, zO, zP, zQ, reduceCtorEq, not_true_eq_false, not_false_eq_true], ⟨by dsimp only; omega, l2, O2⟩, by dsimp only; omega⟩
  · have hd : decide ((i : Int) < (ds.length : Int)) = false := decide_eq_false (by omega)
    have hii : i = s.L.length := by omega
    subst hii
    rw [List.take_length] at hO ⊢
    repeat' (first | (simp (disch := omega) only [push_cast, ↓reduceIte, zA, zG, zB, zH, zI, zC, zJ, zK, zL, zD, zE, zF, zM, zN, zO, zP, zQ, reduceCtorEq, not_true_eq_false, not_false_eq_true, f21, hd, addr_add_eq, Nat.zero_add]) | (first | refine vIfE_of ?_ ?_ | refine vIfD_of ?_ ?_ | refine vIfQ_of ?_ ?_ | refine vIfV_of ?_ ?_) <;> intro _ | refine And.intro (by omega) ?_ | refine drawn_q ?_ | fail)
    first | exact ⟨hO, l1⟩ | exact l1
def LitF (B : Nat) (v : Value) (w : World) : Prop := (∃ b, v = .slice (some ⟨b, 0, none⟩) 0 0) ∧ OwnR flC 3 w B 73 v []
theorem stb_litF (w0 : World) (B : Nat) : Stb w0 (LitF B) := fun _ _ _ _ hl h => ⟨h.1, own_later h.2 hl⟩
theorem copy_d (bm : Nat) (s : Vst) (w : World) (h : DV w bm s) (g : Good s) : FnC Try.prog 24 #[.pointer (some ⟨bm, 0, none⟩)] w fun v w' => (∃ b2, v = .pointer (some ⟨b2, 0, none⟩) ∧ w.heap.size ≤ b2 ∧ DV w' b2 s) ∧ Later w w' := by
  obtain ⟨lv, ds, h⟩ := h
  obtain ⟨o, c, rfl, hc1, hc2, hlen⟩ := h.L
  have hsl := g.len
  have f0 : w.cell? ⟨bm, 0, none⟩ = some (.int .i64 s.room) := h.blk.cell 0
  have f1 : w.cell? ⟨bm, 1, none⟩ = some (.int .i64 s.fuse) := h.blk.cell 1
  have f2 : w.cell? ⟨bm, 2, none⟩ = some (.slice o ds.length c) := h.blk.cell 2
  refine enter24 _ ?_
  unfold B24
  repeat' (first | (simp (disch := omega) only [push_cast, ↓reduceIte, zA, zG, zB, zH, zI, zC, zJ, zK, zL, zD, zE, zF, zM, zN, zO, zP, zQ, reduceCtorEq, not_true_eq_false, not_false_eq_true, f0, f1, f2, addr_add_eq, Nat.zero_add]) | (first | refine vIfE_of ?_ ?_ | refine vIfD_of ?_ ?_ | refine vIfQ_of ?_ ?_ | refine vIfV_of ?_ ?_) <;> intro _ | refine And.intro (by omega) ?_ | fail)
  refine drawn_k 14 ?_
  repeat' (first | (simp (disch := omega) only [push_cast, ↓reduceIte, zA, zG, zB, zH, zI, zC, zJ, zK, zL, zD, zE, zF, zM, zN, zO, zP, zQ, reduceCtorEq, not_true_eq_false, not_false_eq_true, f0, f1, f2, addr_add_eq, Nat.zero_add]) | (first | refine vIfE_of ?_ ?_ | refine vIfD_of ?_ ?_ | refine vIfQ_of ?_ ?_ | refine vIfV_of ?_ ?_) <;> intro _ | refine And.intro (by omega) ?_ | fail)
  refine nB_of _ (LitF w.heap.size) (stb_litF _ _) (fun w' hl => ?_) ?_
  · repeat' (first | (simp (disch := omega) only [push_cast, ↓reduceIte, zA, zG, zB, zH, zI, zC, zJ, zK, zL, zD, zE, zF, zM, zN, zO, zP, zQ, reduceCtorEq, not_true_eq_false, not_false_eq_true]) | (first | refine vIfE_of ?_ ?_ | refine vIfD_of ?_ ?_ | refine vIfQ_of ?_ ?_ | refine vIfV_of ?_ ?_) <;> intro _ | refine And.intro (by omega) ?_ | fail)
    exact ⟨later_alloc _ _, ⟨_, rfl⟩, OwnR.lit0 w' _ hl.size⟩
  repeat' (first | (simp (disch := omega) only [push_cast, ↓reduceIte, zA, zG, zB, zH, zI, zC, zJ, zK, zL, zD, zE, zF, zM, zN, zO, zP, zQ, reduceCtorEq, not_true_eq_false, not_false_eq_true, f0, f1, f2, addr_add_eq, Nat.zero_add]) | (first | refine vIfE_of ?_ ?_ | refine vIfD_of ?_ ?_ | refine vIfQ_of ?_ ?_ | refine vIfV_of ?_ ?_) <;> intro _ | refine And.intro (by omega) ?_ | fail)
  refine nR_app (fun v w' => OwnR flC 3 w' w.heap.size 73 v ds) (fun _ _ _ _ hl h => own_later h hl) (fun σ' w' hl hp => ?_) ?_
  · obtain ⟨hp11, hp15, _⟩ := hp
    obtain ⟨⟨b, hb⟩, hO⟩ : LitF w.heap.size (σ' 11) w' := hp11
    have h15 : σ' 15 = .slice o ds.length c := hp15
    have ea : Array.map (ev σ') #[Operand.tmp 11, Operand.tmp 15] = #[σ' 11, σ' 15] := by simp [ev]
    rw [hb] at hO
    rw [ea, hb, h15]
    refine vAppend_fresh Try.underlying69 ti73 rfl (by decide) (h.later hl).recs (by unfold maxLen; omega) (by omega) ?_
    intro v2 w2 h0 h1
    by_cases hz : ds.length = 0
    · obtain ⟨rfl, rfl⟩ := h0 hz
      obtain rfl := List.length_eq_zero_iff.1 hz
      exact ⟨Later.refl _, hO⟩
    · obtain ⟨h2, h3⟩ := h1 (by omega)
      exact ⟨h3, own_base h2 hl.size⟩
  repeat' (first | (simp (disch := omega) only [push_cast, ↓reduceIte, zA, zG, zB, zH, zI, zC, zJ, zK, zL, zD, zE, zF, zM, zN, zO, zP, zQ, reduceCtorEq, not_true_eq_false, not_false_eq_true]) | (first | refine vIfE_of ?_ ?_ | refine vIfD_of ?_ ?_ | refine vIfQ_of ?_ ?_ | refine vIfV_of ?_ ?_) <;> intro _ | refine And.intro (by omega) ?_ | fail)
  rintro w1 l1 x hx _ _
  obtain ⟨xo, xc, rfl, _, _⟩ := RecS.slice (OwnR.s hx)
  have eca : (Value.agg #[.int .i64 s.room, .int .i64 s.fuse, .slice xo ds.length xc]).cells = #[.int .i64 s.room, .int .i64 s.fuse, .slice xo ds.length xc] := rfl
  repeat' (first | (simp (disch := omega) only [push_cast, ↓reduceIte, zA, zG, zB, zH, zI, zC, zJ, zK, zL, zD, zE, zF, zM, zN, zO, zP, zQ, reduceCtorEq, not_true_eq_false, not_false_eq_true, eca]) | (first | refine vIfE_of ?_ ?_ | refine vIfD_of ?_ ?_ | refine vIfQ_of ?_ ?_ | refine vIfV_of ?_ ?_) <;> intro _ | refine And.intro (by omega) ?_ | fail)
  have l2 := later_alloc w1 (.cells #[.int .i64 s.room, .int .i64 s.fuse, .slice xo ds.length xc] 71)
  have h1 := h.later (l1.trans l2)
  have hx2 := OwnR.later hx l2
  have hD : DV' (w1.alloc (.cells #[.int .i64 s.room, .int .i64 s.fuse, .slice xo ds.length xc] 71)) w1.heap.size (.slice xo ds.length xc) ds s :=
    ⟨Blk.new _ _ _, OwnR.s hx2, InT.of_own hx2, h1.eq, h1.ok⟩
  exact ⟨⟨_, rfl, l1.size, _, _, hD⟩, l1.trans l2⟩
/-- Growth of a row of one type leaves the bytes of files. -/
theorem own_block_ty {w : World} {B s n : Nat} {e : TypeId} {v : Value} {xs : List Value} (h : w.ownsRow B e s v n xs) : ∀ k ∈ v.ownBlock.toList, ∃ cs, Blk w k cs e := by
  obtain ⟨_, h⟩ := h
  rcases h with ⟨rfl, _⟩ | ⟨g, cap, cur, rfl, _, hh, _⟩
  · intro k hk; simp [Value.ownBlock] at hk
  · intro k hk
    simp [Value.ownBlock] at hk
    subst hk
    exact ⟨cur, hh⟩
def FileD (B : Nat) (nm : ByteArray) (l : List UInt8) (n : Nat) (v : Value) (w : World) : Prop := ∃ o c, v = .agg #[.string nm, .slice o l.length c, .int .i64 (n : Int)] ∧ OwnB w B 5 (.slice o l.length c) l
theorem stb_fileD (w0 : World) (B : Nat) (nm : ByteArray) (l : List UInt8) (n : Nat) : Stb w0 (FileD B nm l n) := by
  rintro v w w' _ hl ⟨o, c, h1, h2⟩
  exact ⟨o, c, h1, h2.later hl⟩
def RowD (B : Nat) (nm : ByteArray) (l : List UInt8) (n : Nat) (v : Value) (w : World) : Prop := ∃ b o c, v = .slice (some ⟨b, 0, none⟩) 1 1 ∧ Blk w b (flC ⟨nm, l, n, o, c⟩).toArray 73 ∧ OwnB w B 5 (.slice o l.length c) l
theorem stb_rowD (w0 : World) (B : Nat) (nm : ByteArray) (l : List UInt8) (n : Nat) : Stb w0 (RowD B nm l n) := by
  rintro v w w' _ hl ⟨b, o, c, h1, h2, h3⟩
  exact ⟨b, o, c, h1, h2.chg (Chg.of_later (ks := []) hl) (by simp), h3.later hl⟩
def Lit8 (B : Nat) (v : Value) (w : World) : Prop := (∃ b, v = .slice (some ⟨b, 0, none⟩) 0 0) ∧ OwnB w B 5 v []
theorem stb_lit8 (w0 : World) (B : Nat) : Stb w0 (Lit8 B) := fun _ _ _ _ hl h => ⟨h.1, h.2.later hl⟩
end Go.Proofs.Ytmfcnooleejgmaa
end
section
set_option linter.unusedSimpArgs false
namespace Go.Proofs.Ytmfcnooleejgmaa
open Go.Vc Go.Vlt Go.Key
set_option maxRecDepth 100000
set_option maxHeartbeats 1000000 in
theorem crash_d (bm : Nat) (s : Vst) (keep : Int) (w : World) (h : DV w bm s) (g : Good s) (hk : -9223372036854775808 ≤ keep ∧ keep ≤ 9223372036854775807) : FnC Try.prog 22 #[.pointer (some ⟨bm, 0, none⟩), .int .i64 keep] w fun v w' => (∃ b2, v = .pointer (some ⟨b2, 0, none⟩) ∧ w.heap.size ≤ b2 ∧ DV w' b2 (aCrash keep s)) ∧ Later w w' := by
  obtain ⟨lv, ds, h⟩ := h
  obtain ⟨o, c, rfl, hc1, hc2, hlen⟩ := h.L
  have hsl := g.len
  have f0 : w.cell? ⟨bm, 0, none⟩ = some (.int .i64 s.room) := h.blk.cell 0
  refine enter22 _ _ ?_
  unfold B22
  have eca : (Value.agg #[.int .i64 s.room, .int .i64 (-1), .slice none 0 0]).cells = #[.int .i64 s.room, .int .i64 (-1), .slice none 0 0] := rfl
  repeat' (first | (simp (disch := omega) only [push_cast, ↓reduceIte, zA, zG, zB, zH, zI, zC, zJ, zK, zL, zD, zE, zF, zM, zN, zO, zP, zQ, reduceCtorEq, not_true_eq_false, not_false_eq_true, f0, eca, addr_add_eq, Nat.zero_add]) | (first | refine vIfE_of ?_ ?_ | refine vIfD_of ?_ ?_ | refine vIfQ_of ?_ ?_ | refine vIfV_of ?_ ?_) <;> intro _ | refine And.intro (by omega) ?_ | fail)
  have l1 := later_alloc w (.cells #[.int .i64 s.room, .int .i64 (-1), .slice none 0 0] 71)
  have D1 : DV' (w.alloc (.cells #[.int .i64 s.room, .int .i64 (-1), .slice none 0 0] 71)) w.heap.size (.slice none 0 0) [] ⟨s.room, -1, []⟩ := ⟨Blk.new _ _ _, RecS.nil _, trivial, rfl, by simp⟩
  generalize w.alloc (.cells #[.int .i64 s.room, .int .i64 (-1), .slice none 0 0] 71) = w1 at *
  generalize hbo : w.heap.size = bo at *
  refine vc_loop W22_0 (fun i : Nat => [(6, .int .i64 (i : Int))]) (fun i w' => i ≤ ds.length ∧ Later w w' ∧ ∃ lv2 ds2, DV' w' bo lv2 ds2 ⟨s.room, -1, (s.L.take i).map (crF keep)⟩ ∧ OwnR flC 3 w' bo 73 lv2 ds2) (fun i => ds.length - i) 0 (by decide) ?_ ?_ ?_
  · simp (disch := omega) only [push_cast, ↓reduceIte, zA, zG, zB, zH, zI, zC, zJ, zK, zL, zD, zE, zF, zM, zN, zO, zP, zQ, reduceCtorEq, not_true_eq_false, not_false_eq_true]
    try rfl
  · exact ⟨Nat.zero_le _, l1, _, _, D1, OwnR.nil _ _ _⟩
  rintro i uu w2 ⟨hi, l2, lv2, ds2, D2, O2⟩
  have f2 : w2.cell? ⟨bm, 2, none⟩ = some (.slice o ds.length c) := (h.later l2).blk.cell 2
  have hl2 : ds2.length = i := by
    have := congrArg List.length D2.eq
    simp only [List.length_map, List.length_take] at this
    omega
  by_cases hlt : i < ds.length
  case neg =>
    have hd : decide ((i : Int) < (ds.length : Int)) = false := decide_eq_false (by omega)
    have hii : i = s.L.length := by omega
    subst hii
    rw [List.take_length] at D2
    repeat' (first | (simp (disch := omega) only [push_cast, ↓reduceIte, zA, zG, zB, zH, zI, zC, zJ, zK, zL, zD, zE, zF, zM, zN, zO, zP, zQ, reduceCtorEq, not_true_eq_false, not_false_eq_true, f2, hd, addr_add_eq, Nat.zero_add]) | (first | refine vIfE_of ?_ ?_ | refine vIfD_of ?_ ?_ | refine vIfQ_of ?_ ?_ | refine vIfV_of ?_ ?_) <;> intro _ | refine And.intro (by omega) ?_ | refine drawn_q ?_ | fail)
    exact ⟨⟨bo, rfl, by omega, lv2, ds2, D2⟩, l2⟩
  have hd : decide ((i : Int) < (ds.length : Int)) = true := decide_eq_true (by omega)
  have hil : i < s.L.length := by omega
  obtain ⟨hid, hfl⟩ := h.at hil
  obtain ⟨a, rfl, _⟩ := RecS.at flC_len h.recs hlt
  have fa : Go.Vc.cellsAt w2 (a.add (i * 3)) 3 = some (flC ds[i]) := RecS.get flC_len (h.later l2).recs hlt
  have hok2 := (h.later l2).ok _ (List.getElem_mem hid)
  have hsafe := g.safe _ (List.getElem_mem hil)
  have hob := oB_le (k := (s.L[i]).name) (L := s.L)
  rw [oB_at g.srd hil] at hob
  have hcr : crF keep s.L[i] = crF keep (ds[i]).fl := by rw [hfl]
  have htk : (s.L.take (i + 1)).map (crF keep) = (s.L.take i).map (crF keep) ++ [crF keep (ds[i]).fl] := by rw [take_snoc s.L i hil, List.map_append, ← hcr]; rfl
  have htot := g.tot
  have hroom := g.room
  rw [hfl] at hsafe hob
  generalize ds[i] = d at *
  have hsafe : d.safe ≤ d.b.length := hsafe
  have hob : (d.b.length : Int) ≤ tl s.L := hob
  repeat' (first | (simp (disch := omega) only [push_cast, ↓reduceIte, zA, zG, zB, zH, zI, zC, zJ, zK, zL, zD, zE, zF, zM, zN, zO, zP, zQ, reduceCtorEq, not_true_eq_false, not_false_eq_true, f2, hd, fa, addr_add_eq, Nat.zero_add]) | (first | refine vIfE_of ?_ ?_ | refine vIfD_of ?_ ?_ | refine vIfQ_of ?_ ?_ | refine vIfV_of ?_ ?_) <;> intro _ | refine And.intro (by omega) ?_ | refine drawn_q ?_ | fail)
  refine vStore_fl d w2 ?_
  have l3 := later_alloc w2 (.cells (flC d).toArray 73)
  have B3 := Blk.new w2 (flC d).toArray 73
  have D3 := D2.later l3
  have O3 := OwnR.later O2 l3
  generalize w2.alloc (.cells (flC d).toArray 73) = w3 at *
  generalize hkf : w2.heap.size = kf at *
  have l03 := l2.trans l3
  have g0 : w3.cell? ⟨kf, 0, none⟩ = some (.string d.name) := B3.cell 0
  have g1 : w3.cell? ⟨kf, 1, none⟩ = some (.slice d.bo d.b.length d.bc) := B3.cell 1
  have g2 : w3.cell? ⟨kf, 2, none⟩ = some (.int .i64 (d.safe : Int)) := B3.cell 2
  have hcN : ((crN keep (d.b, d.safe) : Nat) : Int) = (d.safe : Int) + min (max keep 0) ((d.b.length : Int) - d.safe) := by unfold crN; dsimp only; omega
  have hcl : crN keep (d.b, d.safe) ≤ d.b.length := by unfold crN; dsimp only; omega
  have hcrd : crF keep d.fl = ⟨d.name, d.b.take (crN keep (d.b, d.safe)), crN keep (d.b, d.safe)⟩ := rfl
  generalize crN keep (d.b, d.safe) = N at *
  have hcN' := hcN.symm
  have hsl3 := (hok2.later l3).sl
  unfold DE.bv at hsl3
  have hcs : d.b.length ≤ d.bc := by have := (Sl.len hsl3).2.1; simpa using this
  have hcs2 : d.bc ≤ 9223372036854775807 := by have := (Sl.len hsl3).2.2.1; unfold maxLen at this; omega
  obtain ⟨o2, c2, rfl, hc3, hc4⟩ := RecS.slice D2.recs
  have g3 : w3.cell? ⟨bo, 2, none⟩ = some (.slice o2 ds2.length c2) := D3.blk.cell 2
  repeat' (first | (simp (disch := omega) only [push_cast, ↓reduceIte, zA, zG, zB, zH, zI, zC, zJ, zK, zL, zD, zE, zF, zM, zN, zO, zP, zQ, reduceCtorEq, not_true_eq_false, not_false_eq_true, g0, g1, g2, hcN', addr_add_eq, Nat.zero_add]) | (first | refine vIfE_of ?_ ?_ | refine vIfD_of ?_ ?_ | refine vIfQ_of ?_ ?_ | refine vIfV_of ?_ ?_) <;> intro _ | refine And.intro (by omega) ?_ | fail)
  refine drawnS_k 16 ?_
  repeat' (first | (simp (disch := omega) only [push_cast, ↓reduceIte, zA, zG, zB, zH, zI, zC, zJ, zK, zL, zD, zE, zF, zM, zN, zO, zP, zQ, reduceCtorEq, not_true_eq_false, not_false_eq_true, g0, g1, g2, g3, addr_add_eq, Nat.zero_add]) | (first | refine vIfE_of ?_ ?_ | refine vIfD_of ?_ ?_ | refine vIfQ_of ?_ ?_ | refine vIfV_of ?_ ?_) <;> intro _ | refine And.intro (by omega) ?_ | fail)
  have hbo3 : bo ≤ w3.heap.size := by have := l03.size; omega
  have hN : (d.b.take N).length = N := by rw [List.length_take]; omega
  refine nB_of _ (Lit8 bo) (stb_lit8 _ _) (fun w' hl => ?_) ?_
  · repeat' (first | (simp (disch := omega) only [push_cast, ↓reduceIte, zA, zG, zB, zH, zI, zC, zJ, zK, zL, zD, zE, zF, zM, zN, zO, zP, zQ, reduceCtorEq, not_true_eq_false, not_false_eq_true]) | (first | refine vIfE_of ?_ ?_ | refine vIfD_of ?_ ?_ | refine vIfQ_of ?_ ?_ | refine vIfV_of ?_ ?_) <;> intro _ | refine And.intro (by omega) ?_ | fail)
    exact ⟨later_alloc _ _, ⟨_, rfl⟩, own_lit w' [] 5 1 0 rfl (Nat.zero_le _) (Nat.le_trans hbo3 hl.size)⟩
  repeat' (first | (simp (disch := omega) only [push_cast, ↓reduceIte, zA, zG, zB, zH, zI, zC, zJ, zK, zL, zD, zE, zF, zM, zN, zO, zP, zQ, reduceCtorEq, not_true_eq_false, not_false_eq_true, g0, g1, g2, g3, addr_add_eq, Nat.zero_add]) | (first | refine vIfE_of ?_ ?_ | refine vIfD_of ?_ ?_ | refine vIfQ_of ?_ ?_ | refine vIfV_of ?_ ?_) <;> intro _ | refine And.intro (by omega) ?_ | fail)
  refine nR_app (fun v w' => OwnB w' bo 5 v (d.b.take N)) (fun _ _ _ _ hl h => h.later hl) (fun σ' w' hl hp => ?_) ?_
  · obtain ⟨hp50, hp54, _⟩ := hp
    obtain ⟨⟨b, hb⟩, hO⟩ : Lit8 bo (σ' 50) w' := hp50
    have h54 : σ' 54 = .slice d.bo N d.bc := hp54
    have ea : Array.map (ev σ') #[Operand.tmp 50, Operand.tmp 54] = #[σ' 50, σ' 54] := by simp [ev]
    rw [hb] at hO
    rw [ea, hb, h54]
    have hslN : Sl w' (.slice d.bo N d.bc) ((d.b.take N).map u8v) := by rw [List.map_take]; exact (Sl.later hsl3 hl).pre hcl
    have hslN := sl8_n hslN
    rw [hN] at hslN
    refine vAppend_fresh Try.underlying22 ti5 rfl (by decide) hslN (by unfold maxLen; omega) (by omega) ?_
    intro v2 w4 h0 h1
    by_cases hz : N = 0
    · obtain ⟨rfl, rfl⟩ := h0 hz
      have hnil : d.b.take N = [] := by rw [hz]; rfl
      rw [hnil]
      exact ⟨Later.refl _, hO⟩
    · obtain ⟨h2, h3⟩ := h1 (by omega)
      refine ⟨h3, ?_⟩
      exact own8_of (own_base h2 (Nat.le_trans hbo3 hl.size))
  repeat' (first | (simp (disch := omega) only [push_cast, ↓reduceIte, zA, zG, zB, zH, zI, zC, zJ, zK, zL, zD, zE, zF, zM, zN, zO, zP, zQ, reduceCtorEq, not_true_eq_false, not_false_eq_true, g0, g1, g2, g3, addr_add_eq, Nat.zero_add]) | (first | refine vIfE_of ?_ ?_ | refine vIfD_of ?_ ?_ | refine vIfQ_of ?_ ?_ | refine vIfV_of ?_ ?_) <;> intro _ | refine And.intro (by omega) ?_ | fail)
  refine nR_bldV (FileD bo d.name (d.b.take N) N) (stb_fileD _ _ _ _ _) (fun σ' w' hl hp => ?_) ?_
  · obtain ⟨hp49, hp55, hp56, _⟩ := hp
    have h49 : σ' 49 = .string d.name := hp49
    have h55 : OwnB w' bo 5 (σ' 55) (d.b.take N) := hp55
    have h56 : σ' 56 = .int .i64 (N : Int) := hp56
    obtain ⟨o3, c3, hv⟩ := h55.slice
    rw [hv] at h55
    repeat' (first | (simp (disch := omega) only [push_cast, ↓reduceIte, zA, zG, zB, zH, zI, zC, zJ, zK, zL, zD, zE, zF, zM, zN, zO, zP, zQ, reduceCtorEq, not_true_eq_false, not_false_eq_true, h49, h56, hv]) | (first | refine vIfE_of ?_ ?_ | refine vIfD_of ?_ ?_ | refine vIfQ_of ?_ ?_ | refine vIfV_of ?_ ?_) <;> intro _ | refine And.intro (by omega) ?_ | fail)
    exact ⟨Later.refl _, o3, c3, rfl, h55⟩
  repeat' (first | (simp (disch := omega) only [push_cast, ↓reduceIte, zA, zG, zB, zH, zI, zC, zJ, zK, zL, zD, zE, zF, zM, zN, zO, zP, zQ, reduceCtorEq, not_true_eq_false, not_false_eq_true]) | (first | refine vIfE_of ?_ ?_ | refine vIfD_of ?_ ?_ | refine vIfQ_of ?_ ?_ | refine vIfV_of ?_ ?_) <;> intro _ | refine And.intro (by omega) ?_ | fail)
  refine nR_bs (RowD bo d.name (d.b.take N) N) (stb_rowD _ _ _ _ _) (fun σ' w' hl hp => ?_) ?_
  · obtain ⟨hp57, _⟩ := hp
    obtain ⟨o3, c3, hv, h57⟩ : FileD bo d.name (d.b.take N) N (σ' 57) w' := hp57
    repeat' (first | (simp (disch := omega) only [push_cast, ↓reduceIte, zA, zG, zB, zH, zI, zC, zJ, zK, zL, zD, zE, zF, zM, zN, zO, zP, zQ, reduceCtorEq, not_true_eq_false, not_false_eq_true, hv]) | (first | refine vIfE_of ?_ ?_ | refine vIfD_of ?_ ?_ | refine vIfQ_of ?_ ?_ | refine vIfV_of ?_ ?_) <;> intro _ | refine And.intro (by omega) ?_ | fail)
    exact ⟨later_alloc _ _, _, o3, c3, rfl, Blk.new w' _ _, h57.later (later_alloc _ _)⟩
  repeat' (first | (simp (disch := omega) only [push_cast, ↓reduceIte, zA, zG, zB, zH, zI, zC, zJ, zK, zL, zD, zE, zF, zM, zN, zO, zP, zQ, reduceCtorEq, not_true_eq_false, not_false_eq_true]) | (first | refine vIfE_of ?_ ?_ | refine vIfD_of ?_ ?_ | refine vIfQ_of ?_ ?_ | refine vIfV_of ?_ ?_) <;> intro _ | refine And.intro (by omega) ?_ | fail)
  refine ⟨rfl, fun w4 l4 x58 hx58 x57 _ x55 _ x50 _ => ⟨by simp (disch := omega) only [push_cast, ↓reduceIte, zA, zG, zB, zH, zI, zC, zJ, zK, zL, zD, zE, zF, zM, zN, zO, zP, zQ, reduceCtorEq, not_true_eq_false, not_false_eq_true, implies_true, and_self], ?_⟩⟩
  obtain ⟨rb, ro, rc, rfl, hrb, hro⟩ := hx58
  have O4 := OwnR.later O3 l4
  have D4 := D3.later l4
  have R4 : RecS flC 3 w4 (.slice (some ⟨rb, 0, none⟩) 1 1) [⟨d.name, d.b.take N, N, ro, rc⟩] := RecS.lit1 (flC_len _) hrb
  repeat' (first | (simp (disch := omega) only [push_cast, ↓reduceIte, zA, zG, zB, zH, zI, zC, zJ, zK, zL, zD, zE, zF, zM, zN, zO, zP, zQ, reduceCtorEq, not_true_eq_false, not_false_eq_true]) | (first | refine vIfE_of ?_ ?_ | refine vIfD_of ?_ ?_ | refine vIfQ_of ?_ ?_ | refine vIfV_of ?_ ?_) <;> intro _ | refine And.intro (by omega) ?_ | refine drawn_q ?_ | fail)
  refine vAppend_rs flC_len flC_one Try.underlying69 ti73 rfl (by decide) O4 R4 (by simp only [List.length_cons, List.length_nil]; omega) (by decide) (by have := l4.size; omega) ?_
  intro v5 w5 O5 g5 _
  obtain ⟨o5, c5, rfl, _, _⟩ := RecS.slice O5.s
  have gc := Chg.of_grown g5
  have hty := own_block_ty O4
  have hno8 : ∀ k ∈ (Value.slice o2 ds2.length c2).ownBlock.toList, ∀ cs, ¬ Blk w4 k cs 5 := fun k hk => by
    obtain ⟨cs, hb⟩ := hty k hk
    exact blk_ty hb (by decide)
  have B5 : Blk w5 bo #[.int .i64 s.room, .int .i64 (-1), .slice o2 ds2.length c2] 71 := D4.blk.chg gc fun hk => by
    obtain ⟨cs, hb⟩ := hty bo hk
    exact blk_ty D4.blk (by decide) _ hb
  have l05 : Later w w5 := (l03.trans l4).appended O4 (Nat.le_of_eq hbo) g5
  have hokN : DE.Ok w4 ⟨d.name, d.b.take N, N, ro, rc⟩ := ⟨hro.sl, InT.of_own hro⟩
  have hok5 : ∀ x ∈ ds2 ++ [⟨d.name, d.b.take N, N, ro, rc⟩], x.Ok w5 := fun x hx => by
    rcases List.mem_append.1 hx with hx | hx
    · exact (D4.ok x hx).chg gc hno8
    · rw [List.mem_singleton.1 hx]; exact hokN.chg gc hno8
  have hfz := B5.frozen 2
  have hce : ∃ y, w5.cell? ⟨bo, 2, none⟩ = some y := ⟨_, B5.cell 2⟩
  have c6 := chg_setCell (i := 2) w5 (ks := [bo]) (k := bo) (by simp) (.slice o5 (ds2 ++ [(⟨d.name, d.b.take N, N, ro, rc⟩ : DE)]).length c5)
  have D5 : DV' w5 bo (.slice o5 (ds2 ++ [(⟨d.name, d.b.take N, N, ro, rc⟩ : DE)]).length c5) (ds2 ++ [⟨d.name, d.b.take N, N, ro, rc⟩]) ⟨s.room, -1, (s.L.take (i + 1)).map (crF keep)⟩ → True := fun _ => trivial
  have hb8 : ∀ k ∈ [bo], ∀ cs, ¬ Blk w5 k cs 5 := fun k hk => by rw [List.mem_singleton.1 hk]; exact blk_ty B5 (by decide)
  have O6 := own_chg_ty O5 B5 (by decide) c6
  have D6 : DV' (w5.setCell ⟨bo, 2, none⟩ (.slice o5 (ds2 ++ [(⟨d.name, d.b.take N, N, ro, rc⟩ : DE)]).length c5)) bo (.slice o5 (ds2 ++ [(⟨d.name, d.b.take N, N, ro, rc⟩ : DE)]).length c5) (ds2 ++ [⟨d.name, d.b.take N, N, ro, rc⟩]) ⟨s.room, -1, (s.L.take (i + 1)).map (crF keep)⟩ :=
    ⟨B5.set 2 _, OwnR.s O6, InT.of_own O6, by rw [htk, List.map_append, D2.eq, hcrd]; rfl, fun x hx => (hok5 x hx).chg c6 hb8⟩
  have l6 : Later w (w5.setCell ⟨bo, 2, none⟩ (.slice o5 (ds2 ++ [(⟨d.name, d.b.take N, N, ro, rc⟩ : DE)]).length c5)) := Chg.later l05 c6 (by intro j hj; rw [List.mem_singleton.1 hj]; exact Nat.le_of_eq hbo)
  repeat' (first | (simp (disch := omega) only [push_cast, ↓reduceIte, zA, zG, zB, zH, zI, zC, zJ, zK, zL, zD, zE, zF, zM, zN, zO, zP, zQ, reduceCtorEq, not_true_eq_false, not_false_eq_true, hce, hfz, addr_add_eq, Nat.zero_add]) | (first | refine vIfE_of ?_ ?_ | refine vIfD_of ?_ ?_ | refine vIfQ_of ?_ ?_ | refine vIfV_of ?_ ?_) <;> intro _ | refine And.intro (by omega) ?_ | refine drawn_q ?_ | fail)
  exact ⟨rfl, i + 1, by simp (disch := omega) only [push_cast, ↓reduceIte, zA, zG, zB, zH, zI, zC, zJ, zK, zL, zD, zE, zF, zM, zN, zO, zP, zQ, reduceCtorEq, not_true_eq_false, not_false_eq_true], ⟨by omega, l6, _, _, D6, O6⟩, by dsimp only; omega⟩
end Go.Proofs.Ytmfcnooleejgmaa
end
section
set_option linter.unusedSimpArgs false
namespace Go.Proofs.Ytmfcnooleejgmaa
open Go.Vc Go.Vlt Go.Key
set_option maxRecDepth 100000
theorem doRef_d (x : ActD) (bm : Nat) (s : Vst) (w : World) (h : DV w bm s) (g : Good s) (hx : x.Ok w) (hf : fitB x = true) (hj : ∃ j, inB j x.bv ∧ j ≠ bm) :
    FnC Try.prog 21 #[.agg (acC x).toArray, .pointer (some ⟨bm, 0, none⟩)] w fun v w' => v = .int .i64 (aDo x s).1 ∧ DV w' bm (aDo x s).2 ∧ Chg w w' [bm] := by
  obtain ⟨f1, f2, f3⟩ := fit_is hf
  obtain ⟨l1, s1, B1⟩ := actBox w x
  unfold aDo
  refine enter21 _ _ ?_
  unfold B21
  have eca : (Value.agg (acC x).toArray).cells = (acC x).toArray := rfl
  repeat' (first | (simp (disch := omega) only [push_cast, ↓reduceIte, zA, zG, zB, zH, zI, zC, zJ, zK, zL, zD, zE, zF, zM, zN, zO, zP, zQ, reduceCtorEq, not_true_eq_false, not_false_eq_true, eca]) | (first | refine vIfE_of ?_ ?_ | refine vIfD_of ?_ ?_ | refine vIfQ_of ?_ ?_ | refine vIfV_of ?_ ?_) <;> intro _ | refine And.intro (by omega) ?_ | refine drawn_q ?_ | fail)
  generalize w.alloc (.cells (acC x).toArray 37) = w1 at *
  obtain ⟨g0, g1, g2, g3, g4, _⟩ := actAt B1
  have c1 : Chg w w1 [bm] := Chg.of_later l1
  have h1 := h.later l1
  by_cases k1 : x.kind = 1
  · have e1 : decide (x.kind = 1) = true := decide_eq_true k1
    rw [if_pos k1]
    repeat' (first | (simp (disch := omega) only [push_cast, ↓reduceIte, zA, zG, zB, zH, zI, zC, zJ, zK, zL, zD, zE, zF, zM, zN, zO, zP, zQ, reduceCtorEq, not_true_eq_false, not_false_eq_true, g0, g1, g2, g3, g4, e1, decide_false, decide_true, addr_add_eq, Nat.zero_add]) | (first | refine vIfE_of ?_ ?_ | refine vIfD_of ?_ ?_ | refine vIfQ_of ?_ ?_ | refine vIfV_of ?_ ?_) <;> intro _ | refine And.intro (by omega) ?_ | refine drawn_q ?_ | fail)
    refine (append_d bm s x.a _ x.b w1 h1 g (by omega) (hx.sl.later l1) hj (by omega)).mono ?_
    rintro _ w2 ⟨rfl, h2, c2⟩
    repeat' (first | (simp (disch := omega) only [push_cast, ↓reduceIte, zA, zG, zB, zH, zI, zC, zJ, zK, zL, zD, zE, zF, zM, zN, zO, zP, zQ, reduceCtorEq, not_true_eq_false, not_false_eq_true]) | (first | refine vIfE_of ?_ ?_ | refine vIfD_of ?_ ?_ | refine vIfQ_of ?_ ?_ | refine vIfV_of ?_ ?_) <;> intro _ | refine And.intro (by omega) ?_ | refine drawn_q ?_ | fail)
    first | exact ⟨rfl, h2, c1.trans c2⟩ | exact ⟨h2, c1.trans c2⟩ | exact c1.trans c2
  have e1 : decide (x.kind = 1) = false := decide_eq_false k1
  by_cases k2 : x.kind = 2
  · have e2 : decide (x.kind = 2) = true := decide_eq_true k2
    rw [if_neg k1, if_pos k2]
    repeat' (first | (simp (disch := omega) only [push_cast, ↓reduceIte, zA, zG, zB, zH, zI, zC, zJ, zK, zL, zD, zE, zF, zM, zN, zO, zP, zQ, reduceCtorEq, not_true_eq_false, not_false_eq_true, g0, g1, g2, g3, g4, e1, e2, decide_false, decide_true, addr_add_eq, Nat.zero_add]) | (first | refine vIfE_of ?_ ?_ | refine vIfD_of ?_ ?_ | refine vIfQ_of ?_ ?_ | refine vIfV_of ?_ ?_) <;> intro _ | refine And.intro (by omega) ?_ | refine drawn_q ?_ | fail)
    refine (sync_d bm s x.a w1 h1 g).mono ?_
    rintro _ w2 ⟨rfl, h2, c2⟩
    repeat' (first | (simp (disch := omega) only [push_cast, ↓reduceIte, zA, zG, zB, zH, zI, zC, zJ, zK, zL, zD, zE, zF, zM, zN, zO, zP, zQ, reduceCtorEq, not_true_eq_false, not_false_eq_true]) | (first | refine vIfE_of ?_ ?_ | refine vIfD_of ?_ ?_ | refine vIfQ_of ?_ ?_ | refine vIfV_of ?_ ?_) <;> intro _ | refine And.intro (by omega) ?_ | refine drawn_q ?_ | fail)
    first | exact ⟨rfl, h2, c1.trans c2⟩ | exact ⟨h2, c1.trans c2⟩ | exact c1.trans c2
  have e2 : decide (x.kind = 2) = false := decide_eq_false k2
  by_cases k3 : x.kind = 3
  · have e3 : decide (x.kind = 3) = true := decide_eq_true k3
    rw [if_neg k1, if_neg k2, if_pos k3]
    repeat' (first | (simp (disch := omega) only [push_cast, ↓reduceIte, zA, zG, zB, zH, zI, zC, zJ, zK, zL, zD, zE, zF, zM, zN, zO, zP, zQ, reduceCtorEq, not_true_eq_false, not_false_eq_true, g0, g1, g2, g3, g4, e1, e2, e3, decide_false, decide_true, addr_add_eq, Nat.zero_add]) | (first | refine vIfE_of ?_ ?_ | refine vIfD_of ?_ ?_ | refine vIfQ_of ?_ ?_ | refine vIfV_of ?_ ?_) <;> intro _ | refine And.intro (by omega) ?_ | refine drawn_q ?_ | fail)
    refine (rename_d bm s x.a x.z w1 h1 g (by omega)).mono ?_
    rintro _ w2 ⟨rfl, h2, c2⟩
    repeat' (first | (simp (disch := omega) only [push_cast, ↓reduceIte, zA, zG, zB, zH, zI, zC, zJ, zK, zL, zD, zE, zF, zM, zN, zO, zP, zQ, reduceCtorEq, not_true_eq_false, not_false_eq_true]) | (first | refine vIfE_of ?_ ?_ | refine vIfD_of ?_ ?_ | refine vIfQ_of ?_ ?_ | refine vIfV_of ?_ ?_) <;> intro _ | refine And.intro (by omega) ?_ | refine drawn_q ?_ | fail)
    first | exact ⟨rfl, h2, c1.trans c2⟩ | exact ⟨h2, c1.trans c2⟩ | exact c1.trans c2
  have e3 : decide (x.kind = 3) = false := decide_eq_false k3
  by_cases k4 : x.kind = 4
  · have e4 : decide (x.kind = 4) = true := decide_eq_true k4
    rw [if_neg k1, if_neg k2, if_neg k3, if_pos k4]
    repeat' (first | (simp (disch := omega) only [push_cast, ↓reduceIte, zA, zG, zB, zH, zI, zC, zJ, zK, zL, zD, zE, zF, zM, zN, zO, zP, zQ, reduceCtorEq, not_true_eq_false, not_false_eq_true, g0, g1, g2, g3, g4, e1, e2, e3, e4, decide_false, decide_true, addr_add_eq, Nat.zero_add]) | (first | refine vIfE_of ?_ ?_ | refine vIfD_of ?_ ?_ | refine vIfQ_of ?_ ?_ | refine vIfV_of ?_ ?_) <;> intro _ | refine And.intro (by omega) ?_ | refine drawn_q ?_ | fail)
    refine (delete_d bm s x.a w1 h1 g).mono ?_
    rintro _ w2 ⟨rfl, h2, c2⟩
    repeat' (first | (simp (disch := omega) only [push_cast, ↓reduceIte, zA, zG, zB, zH, zI, zC, zJ, zK, zL, zD, zE, zF, zM, zN, zO, zP, zQ, reduceCtorEq, not_true_eq_false, not_false_eq_true]) | (first | refine vIfE_of ?_ ?_ | refine vIfD_of ?_ ?_ | refine vIfQ_of ?_ ?_ | refine vIfV_of ?_ ?_) <;> intro _ | refine And.intro (by omega) ?_ | refine drawn_q ?_ | fail)
    first | exact ⟨rfl, h2, c1.trans c2⟩ | exact ⟨h2, c1.trans c2⟩ | exact c1.trans c2
  have e4 : decide (x.kind = 4) = false := decide_eq_false k4
  by_cases k5 : x.kind = 5
  · have e5 : decide (x.kind = 5) = true := decide_eq_true k5
    rw [if_neg k1, if_neg k2, if_neg k3, if_neg k4, if_pos k5]
    unfold aArm
    by_cases hn : x.n < 0
    · have hd := decide_eq_true hn
      rw [if_pos hn]
      repeat' (first | (simp (disch := omega) only [push_cast, ↓reduceIte, zA, zG, zB, zH, zI, zC, zJ, zK, zL, zD, zE, zF, zM, zN, zO, zP, zQ, reduceCtorEq, not_true_eq_false, not_false_eq_true, g0, g1, g2, g3, g4, e1, e2, e3, e4, e5, hd, decide_false, decide_true, addr_add_eq, Nat.zero_add]) | (first | refine vIfE_of ?_ ?_ | refine vIfD_of ?_ ?_ | refine vIfQ_of ?_ ?_ | refine vIfV_of ?_ ?_) <;> intro _ | refine And.intro (by omega) ?_ | refine drawn_q ?_ | fail)
      first | exact ⟨rfl, h1, c1⟩ | exact ⟨h1, c1⟩ | exact c1
    · have hd := decide_eq_false hn
      rw [if_neg hn]
      obtain ⟨lv, ds, h1⟩ := h1
      have hfz := h1.blk.frozen 1
      have hce : ∃ y, w1.cell? ⟨bm, 1, none⟩ = some y := ⟨_, h1.blk.cell 1⟩
      have c2 := chg_setCell (i := 1) w1 (ks := [bm]) (k := bm) (by simp) (.int .i64 x.n)
      have h2 := h1.fuse x.n
      repeat' (first | (simp (disch := omega) only [push_cast, ↓reduceIte, zA, zG, zB, zH, zI, zC, zJ, zK, zL, zD, zE, zF, zM, zN, zO, zP, zQ, reduceCtorEq, not_true_eq_false, not_false_eq_true, g0, g1, g2, g3, g4, e1, e2, e3, e4, e5, hd, hce, hfz, decide_false, decide_true, addr_add_eq, Nat.zero_add]) | (first | refine vIfE_of ?_ ?_ | refine vIfD_of ?_ ?_ | refine vIfQ_of ?_ ?_ | refine vIfV_of ?_ ?_) <;> intro _ | refine And.intro (by omega) ?_ | refine drawn_q ?_ | fail)
      first | exact ⟨rfl, ⟨_, _, h2⟩, c1.trans c2⟩ | exact ⟨⟨_, _, h2⟩, c1.trans c2⟩ | exact c1.trans c2
  have e5 : decide (x.kind = 5) = false := decide_eq_false k5
  rw [if_neg k1, if_neg k2, if_neg k3, if_neg k4, if_neg k5]
  repeat' (first | (simp (disch := omega) only [push_cast, ↓reduceIte, zA, zG, zB, zH, zI, zC, zJ, zK, zL, zD, zE, zF, zM, zN, zO, zP, zQ, reduceCtorEq, not_true_eq_false, not_false_eq_true, g0, g1, g2, g3, g4, e1, e2, e3, e4, e5, decide_false, decide_true, addr_add_eq, Nat.zero_add]) | (first | refine vIfE_of ?_ ?_ | refine vIfD_of ?_ ?_ | refine vIfQ_of ?_ ?_ | refine vIfV_of ?_ ?_) <;> intro _ | refine And.intro (by omega) ?_ | refine drawn_q ?_ | fail)
  first | exact ⟨rfl, h1, c1⟩ | exact ⟨h1, c1⟩ | exact c1
theorem same_c (bk r bm : Nat) (s : Vst) (w : World) (h : VS w bk r s) (hm : DV w bm s) (g : Good s) : FnC Try.prog 25 #[.pointer (some ⟨bk, 0, none⟩), .pointer (some ⟨bm, 0, none⟩)] w fun v w' => v = .bool true ∧ Later w w' := by
  have hlen := g.len
  refine enter25 _ _ ?_
  unfold B25
  repeat' (first | (simp (disch := omega) only [push_cast, ↓reduceIte, zA, zG, zB, zH, zI, zC, zJ, zK, zL, zD, zE, zF, zM, zN, zO, zP, zQ, reduceCtorEq, not_true_eq_false, not_false_eq_true]) | (first | refine vIfE_of ?_ ?_ | refine vIfD_of ?_ ?_ | refine vIfQ_of ?_ ?_ | refine vIfV_of ?_ ?_) <;> intro _ | refine And.intro (by omega) ?_ | refine drawn_q ?_ | fail)
  refine (list_s bk r s w h g).mono ?_
  rintro lv w1 ⟨hO, l1⟩
  have hOs := OwnN.st hO
  obtain ⟨lo, lc, rfl⟩ := OwnN.slice hO
  rw [List.length_map] at hOs ⊢
  repeat' (first | (simp (disch := omega) only [push_cast, ↓reduceIte, zA, zG, zB, zH, zI, zC, zJ, zK, zL, zD, zE, zF, zM, zN, zO, zP, zQ, reduceCtorEq, not_true_eq_false, not_false_eq_true]) | (first | refine vIfE_of ?_ ?_ | refine vIfD_of ?_ ?_ | refine vIfQ_of ?_ ?_ | refine vIfV_of ?_ ?_) <;> intro _ | refine And.intro (by omega) ?_ | refine drawn_q ?_ | fail)
  refine (list_d bm s w1 (hm.later l1) g).mono ?_
  rintro mv w2 ⟨hO2, l2⟩
  have hO2s := OwnN.st hO2
  obtain ⟨mo, mc, rfl⟩ := OwnN.slice hO2
  rw [List.length_map] at hO2s ⊢
  repeat' (first | (simp (disch := omega) only [push_cast, ↓reduceIte, zA, zG, zB, zH, zI, zC, zJ, zK, zL, zD, zE, zF, zM, zN, zO, zP, zQ, reduceCtorEq, not_true_eq_false, not_false_eq_true]) | (first | refine vIfE_of ?_ ?_ | refine vIfD_of ?_ ?_ | refine vIfQ_of ?_ ?_ | refine vIfV_of ?_ ?_) <;> intro _ | refine And.intro (by omega) ?_ | refine drawn_q ?_ | fail)
  refine (texts_c _ _ _ _ w2 (Sl.later hOs l2) hO2s).mono ?_
  rintro _ w3 ⟨rfl, l3⟩
  have et : decide (s.L.map Fl.name = s.L.map Fl.name) = true := decide_eq_true rfl
  rw [et]
  have l03 := l1.trans (l2.trans l3)
  have h3 := h.later l03
  have hm3 := hm.later l03
  have hO3 := Sl.later hOs (l2.trans l3)
  clear hO hO2 hO2s hOs
  obtain ⟨dv, ds, hm3'⟩ := hm3
  have f1 : ∀ w', Later w3 w' → w'.cell? ⟨bm, 1, none⟩ = some (.int .i64 s.fuse) := fun w' hl => (hm3'.later hl).blk.cell 1
  have e1 : decide (s.room - tl s.L = s.room - tl s.L) = true := decide_eq_true rfl
  repeat' (first | (simp (disch := omega) only [push_cast, ↓reduceIte, zA, zG, zB, zH, zI, zC, zJ, zK, zL, zD, zE, zF, zM, zN, zO, zP, zQ, reduceCtorEq, not_true_eq_false, not_false_eq_true]) | (first | refine vIfE_of ?_ ?_ | refine vIfD_of ?_ ?_ | refine vIfQ_of ?_ ?_ | refine vIfV_of ?_ ?_) <;> intro _ | refine And.intro (by omega) ?_ | refine drawn_q ?_ | fail)
  refine QFn.of hb17 (v := .int .i64 (s.room - tl s.L)) (fun w' hl => free_s bk r s w' (h3.later hl) g) ?_
  repeat' (first | (simp (disch := omega) only [push_cast, ↓reduceIte, zA, zG, zB, zH, zI, zC, zJ, zK, zL, zD, zE, zF, zM, zN, zO, zP, zQ, reduceCtorEq, not_true_eq_false, not_false_eq_true]) | (first | refine vIfE_of ?_ ?_ | refine vIfD_of ?_ ?_ | refine vIfQ_of ?_ ?_ | refine vIfV_of ?_ ?_) <;> intro _ | refine And.intro (by omega) ?_ | refine drawn_q ?_ | fail)
  refine QFn.of hb43 (v := .int .i64 (s.room - tl s.L)) (fun w' hl => (free_d bm s w' ⟨_, _, hm3'.later hl⟩ g).mono fun u w'' hu => ⟨hu.1, by rw [hu.2]; exact Later.refl _⟩) ?_
  repeat' (first | (simp (disch := omega) only [push_cast, ↓reduceIte, zA, zG, zB, zH, zI, zC, zJ, zK, zL, zD, zE, zF, zM, zN, zO, zP, zQ, reduceCtorEq, not_true_eq_false, not_false_eq_true, e1]) | (first | refine vIfE_of ?_ ?_ | refine vIfD_of ?_ ?_ | refine vIfQ_of ?_ ?_ | refine vIfV_of ?_ ?_) <;> intro _ | refine And.intro (by omega) ?_ | refine drawn_q ?_ | fail)
  refine QFn.of hb28 (v := .bool (decide (s.fuse = 0))) (fun w' hl => (broken_s bk r s w' (h3.later hl)).mono fun u w'' hu => ⟨hu.1, by rw [hu.2]; exact Later.refl _⟩) ?_
  have e2 : decide (decide (s.fuse = 0) = decide (s.fuse = 0)) = true := decide_eq_true rfl
  repeat' (first | (simp (disch := omega) only [push_cast, ↓reduceIte, zA, zG, zB, zH, zI, zC, zJ, zK, zL, zD, zE, zF, zM, zN, zO, zP, zQ, reduceCtorEq, not_true_eq_false, not_false_eq_true, f1 w3 (Later.refl _), e2, addr_add_eq, Nat.zero_add]) | (first | refine vIfE_of ?_ ?_ | refine vIfD_of ?_ ?_ | refine vIfQ_of ?_ ?_ | refine vIfV_of ?_ ?_) <;> intro _ | refine And.intro (by omega) ?_ | refine drawn_q ?_ | fail)
  intro w4 l4
  refine vc_loop W25_0 (fun i : Nat => [(4, .bool false), (7, .int .i64 (i : Int))]) (fun i w' => i ≤ s.L.length ∧ Later w3 w') (fun i => s.L.length - i) 0 (by decide) ?_ ?_ ?_
  · simp (disch := omega) only [push_cast, ↓reduceIte, zA, zG, zB, zH, zI, zC, zJ, zK, zL, zD, zE, zF, zM, zN, zO, zP, zQ, reduceCtorEq, not_true_eq_false, not_false_eq_true]
  · exact ⟨Nat.zero_le _, l4⟩
  rintro i u2 w5 ⟨hi, l5⟩
  by_cases hil : i < s.L.length
  · have hd5 : decide ((i : Int) < (s.L.length : Int)) = true := decide_eq_true (by omega)
    have hS := Sl.later hO3 l5
    cases lo with
    | none => have := (Sl.len hS).2.2.2 rfl; have h0 := this.1; simp at h0; rw [h0] at hil; simp at hil
    | some la =>
    have hc : w5.cell? (la.add i) = some (.string (s.L[i]).name) := Sl.at hS (by simp [hil])
    have hob := oB_at g.srd hil
    have his : (lk (s.L[i]).name s.L).isSome = true := by rw [lk_mem g.srd (List.getElem_mem hil)]; rfl
    repeat' (first | (simp (disch := omega) only [push_cast, ↓reduceIte, zA, zG, zB, zH, zI, zC, zJ, zK, zL, zD, zE, zF, zM, zN, zO, zP, zQ, reduceCtorEq, not_true_eq_false, not_false_eq_true, hd5, hc]) | (first | refine vIfE_of ?_ ?_ | refine vIfD_of ?_ ?_ | refine vIfQ_of ?_ ?_ | refine vIfV_of ?_ ?_) <;> intro _ | refine And.intro (by omega) ?_ | refine drawn_q ?_ | fail)
    refine (read_s bk r s _ w5 (h3.later l5) g).mono ?_
    rintro _ w6 ⟨⟨y, rfl, hy⟩, l6⟩
    obtain ⟨yo, yc, rfl⟩ := hy.slice
    have l06 := l5.trans l6
    have D6 := hm3'.later l06
    obtain ⟨hid, hfl⟩ := D6.at hil
    obtain ⟨eo, ec, rfl, _, _, _⟩ := D6.L
    obtain ⟨ea, rfl, _⟩ := RecS.at flC_len D6.recs hid
    have hdo := D6.ok _ (List.getElem_mem hid)
    have hbb : (ds[i]).b = oB (s.L[i]).name s.L := by rw [hob, hfl]; rfl
    have fa : ∀ w', Later w6 w' → w'.cell? ((ea.add (i * 3)).add 1) = some (.slice (ds[i]).bo (ds[i]).b.length (ds[i]).bc) := fun w' hl => RecS.cell flC_len (D6.later hl).recs hid rfl
    have f2 : ∀ w', Later w6 w' → w'.cell? ⟨bm, 2, none⟩ = some (.slice (some ea) ds.length ec) := fun w' hl => (D6.later hl).blk.cell 2
    have hidl : i < ds.length := hid
    have hyS := Sl.of_own hy
    have e7 : decide (strOf (oB (s.L[i]).name s.L) = strOf (ds[i]).b) = true := decide_eq_true (by rw [hbb])
    rw [his]
    repeat' (first | (simp (disch := omega) only [push_cast, ↓reduceIte, zA, zG, zB, zH, zI, zC, zJ, zK, zL, zD, zE, zF, zM, zN, zO, zP, zQ, reduceCtorEq, not_true_eq_false, not_false_eq_true]) | (first | refine vIfE_of ?_ ?_ | refine vIfD_of ?_ ?_ | refine vIfQ_of ?_ ?_ | refine vIfV_of ?_ ?_) <;> intro _ | refine And.intro (by omega) ?_ | refine drawn_q ?_ | fail)
    refine qConv_bytes Try.underlying22 Try.underlying9 Try.underlying5 (by simp (disch := omega) only [push_cast, ↓reduceIte, zA, zG, zB, zH, zI, zC, zJ, zK, zL, zD, zE, zF, zM, zN, zO, zP, zQ, reduceCtorEq, not_true_eq_false, not_false_eq_true]) hyS ?_
    repeat' (first | (simp (disch := omega) only [push_cast, ↓reduceIte, zA, zG, zB, zH, zI, zC, zJ, zK, zL, zD, zE, zF, zM, zN, zO, zP, zQ, reduceCtorEq, not_true_eq_false, not_false_eq_true, f2 w6 (Later.refl _), fa w6 (Later.refl _), addr_add_eq, Nat.zero_add]) | (first | refine vIfE_of ?_ ?_ | refine vIfD_of ?_ ?_ | refine vIfQ_of ?_ ?_ | refine vIfV_of ?_ ?_) <;> intro _ | refine And.intro (by omega) ?_ | refine drawn_q ?_ | fail)
    refine qConv_bytes Try.underlying22 Try.underlying9 Try.underlying5 (by simp (disch := omega) only [push_cast, ↓reduceIte, zA, zG, zB, zH, zI, zC, zJ, zK, zL, zD, zE, zF, zM, zN, zO, zP, zQ, reduceCtorEq, not_true_eq_false, not_false_eq_true]) hdo.sl ?_
    repeat' (first | (simp (disch := omega) only [push_cast, ↓reduceIte, zA, zG, zB, zH, zI, zC, zJ, zK, zL, zD, zE, zF, zM, zN, zO, zP, zQ, reduceCtorEq, not_true_eq_false, not_false_eq_true, e7]) | (first | refine vIfE_of ?_ ?_ | refine vIfD_of ?_ ?_ | refine vIfQ_of ?_ ?_ | refine vIfV_of ?_ ?_) <;> intro _ | refine And.intro (by omega) ?_ | refine drawn_q ?_ | fail)
    exact fun w' hl => ⟨rfl, i + 1, by simp (disch := omega) only [push_cast, ↓reduceIte, zA, zG, zB, zH, zI, zC, zJ, zK, zL, zD, zE, zF, zM, zN, zO, zP, zQ, reduceCtorEq, not_true_eq_false, not_false_eq_true], ⟨by omega, l06.trans hl⟩, by dsimp only; omega⟩
  · have hkk : i = s.L.length := by omega
    subst hkk
    have hd5 : decide ((s.L.length : Int) < (s.L.length : Int)) = false := decide_eq_false (by omega)
    repeat' (first | (simp (disch := omega) only [push_cast, ↓reduceIte, zA, zG, zB, zH, zI, zC, zJ, zK, zL, zD, zE, zF, zM, zN, zO, zP, zQ, reduceCtorEq, not_true_eq_false, not_false_eq_true, hd5]) | (first | refine vIfE_of ?_ ?_ | refine vIfD_of ?_ ?_ | refine vIfQ_of ?_ ?_ | refine vIfV_of ?_ ?_) <;> intro _ | refine And.intro (by omega) ?_ | refine drawn_q ?_ | fail)
    first | exact ⟨rfl, (l03.trans l5)⟩ | exact (l03.trans l5)
end Go.Proofs.Ytmfcnooleejgmaa
end
