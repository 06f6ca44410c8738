/- VaultSafe holds for every input: of bytes that are appended, synced, and more behind, a crash leaves the synced ones, and a beginning of the rest, as much as is kept; a second crash leaves all. -/
import Derived.Test.YtmfcnooleejgmaaRows
import Derived.Test.YtmfcnooleejgmaaPartF
set_option linter.all false
open Nat renaming reduceEqDiff → zA, reducePow → zB, reduceMul → zC, reduceAdd → zD, reduceSub → zE, reduceLeDiff → zF
open Int renaming reduceToNat → zG, reducePow → zH, reduceNeg → zI, reduceMul → zJ, reduceAdd → zK, reduceSub → zL, reduceLT → zM, reduceLE → zN, reduceEq → zO, reduceMod → zP, reduceDiv → zQ
set_option linter.unusedSimpArgs false
namespace Go.Proofs.Ytmfcnooleejgmaa.vaultSafe
open Go.Vc Go.Vlt Go.Key Go.ChangeShapes Go.WideShapes Go.ChangeAt Go.RowKit
abbrev kX : ByteArray := ⟨#[120]⟩
abbrev kY : ByteArray := ⟨#[121]⟩
abbrev kZ : ByteArray := ⟨#[122]⟩
theorem inB_arg {w : World} {v : Value} {xs : List Value} (h : Sl w v xs) {bk : Nat} (hb : w.heap.size ≤ bk) : ∃ j, inB j v ∧ j ≠ bk := by
  rcases inB_lt h with h1 | ⟨k, hk, h1⟩
  · exact ⟨bk + 1, h1 _, by omega⟩
  · exact ⟨k, h1, by omega⟩
theorem app_ok {k : ByteArray} {bl : List UInt8} {s : Vst} (h1 : nmOk k = true) (h2 : brn s.fuse ≠ 0) (h3 : bl.length ≤ s.room - tl s.L) (h4 : s.L.length < 200) : aApp k bl s = (0, ⟨s.room, brn s.fuse, lPut ⟨k, oB k s.L ++ bl, oS k s.L⟩ s.L⟩) := by
  unfold aApp
  rw [if_neg (by simp [h1]), if_neg h2, if_neg]
  rintro (h | ⟨_, h⟩) <;> omega
theorem take_more (a b : List UInt8) (n : Nat) : (a ++ b).take (a.length + n) = a ++ b.take n := by
  rw [List.take_append, List.take_of_length_le (by omega)]
  congr 2
  omega
set_option maxRecDepth 100000
theorem law_c (va vb : Value) (a b : List UInt8) (keep : Int) (w : World) (ha : Sl w va (a.map u8v)) (hb : Sl w vb (b.map u8v)) (hk : -9223372036854775808 ≤ keep ∧ keep ≤ 9223372036854775807) : FnC Try.prog 3 #[va, vb, .int .i64 keep] w fun v w' => v = .bool true ∧ Later w w' := by
  have hsa := ha
  have hsb := hb
  obtain ⟨oa, ca, rfl⟩ := ha.slice
  obtain ⟨ob, cb, rfl⟩ := hb.slice
  simp only [List.length_map] at ha hb hsa hsb ⊢
  have a1 := (Sl.len ha).2.1
  have a2 := (Sl.len ha).2.2.1
  have b1 := (Sl.len hb).2.1
  have b2 := (Sl.len hb).2.2.1
  unfold maxLen at a2 b2

  refine enter3 _ _ _ ?_
  unfold B3
  repeat' (first | (simp (disch := omega) only [push_cast, ↓reduceIte, zA, zG, zB, zH, zI, zC, zJ, zK, zL, zD, zE, zF, zM, zN, zO, zP, zQ, reduceCtorEq, not_true_eq_false, not_false_eq_true]) | (first | refine vIfE_of ?_ ?_ | refine vIfD_of ?_ ?_ | refine vIfQ_of ?_ ?_ | refine vIfV_of ?_ ?_) <;> intro _ | refine And.intro (by omega) ?_ | refine drawn_q ?_ | fail)
  refine (new_s 16777216 w (by omega)).mono ?_
  rintro _ w1 ⟨⟨_, hno⟩ | ⟨_, _, bk, r, hbk, hr, rfl, V1⟩, l1⟩
  · exact absurd (by omega) hno
  have G1 : Good (s0 16777216) := s0_good (by omega)
  by_cases hla : 200 < a.length
  · repeat' (first | (simp (disch := omega) only [push_cast, ↓reduceIte, zA, zG, zB, zH, zI, zC, zJ, zK, zL, zD, zE, zF, zM, zN, zO, zP, zQ, reduceCtorEq, not_true_eq_false, not_false_eq_true]) | (first | refine vIfE_of ?_ ?_ | refine vIfD_of ?_ ?_ | refine vIfQ_of ?_ ?_ | refine vIfV_of ?_ ?_) <;> intro _ | refine And.intro (by omega) ?_ | refine drawn_q ?_ | fail)
    first | exact ⟨rfl, l1⟩ | exact l1
  by_cases hlb : 200 < b.length
  · repeat' (first | (simp (disch := omega) only [push_cast, ↓reduceIte, zA, zG, zB, zH, zI, zC, zJ, zK, zL, zD, zE, zF, zM, zN, zO, zP, zQ, reduceCtorEq, not_true_eq_false, not_false_eq_true]) | (first | refine vIfE_of ?_ ?_ | refine vIfD_of ?_ ?_ | refine vIfQ_of ?_ ?_ | refine vIfV_of ?_ ?_) <;> intro _ | refine And.intro (by omega) ?_ | refine drawn_q ?_ | fail)
    first | exact ⟨rfl, l1⟩ | exact l1
  repeat' (first | (simp (disch := omega) only [push_cast, ↓reduceIte, zA, zG, zB, zH, zI, zC, zJ, zK, zL, zD, zE, zF, zM, zN, zO, zP, zQ, reduceCtorEq, not_true_eq_false, not_false_eq_true]) | (first | refine vIfE_of ?_ ?_ | refine vIfD_of ?_ ?_ | refine vIfQ_of ?_ ?_ | refine vIfV_of ?_ ?_) <;> intro _ | refine And.intro (by omega) ?_ | refine drawn_q ?_ | fail)
  have jA := inB_arg hsa hbk
  have jB := inB_arg hsb hbk
  refine (append_s bk r _ kX _ a w1 V1 G1 (by decide) (hsa.later l1) jA (by omega)).mono ?_
  rintro _ w2 ⟨rfl, V2, c2⟩
  have G2 := aApp_good G1 kX a
  have e2 : aApp kX a (s0 16777216) = (0, ⟨16777216, -1, [⟨kX, a, 0⟩]⟩) := app_ok rfl (by decide) (by show (a.length : Int) ≤ 16777216 - 0; omega) (by decide)
  rw [e2] at V2 G2 ⊢
  dsimp only at V2 G2
  have l2 := chg_later l1 c2 hbk hr
  repeat' (first | (simp (disch := omega) only [push_cast, ↓reduceIte, zA, zG, zB, zH, zI, zC, zJ, zK, zL, zD, zE, zF, zM, zN, zO, zP, zQ, reduceCtorEq, not_true_eq_false, not_false_eq_true]) | (first | refine vIfE_of ?_ ?_ | refine vIfD_of ?_ ?_ | refine vIfQ_of ?_ ?_ | refine vIfV_of ?_ ?_) <;> intro _ | refine And.intro (by omega) ?_ | refine drawn_q ?_ | fail)
  refine (sync_s bk r _ kX w2 V2 G2 (by decide)).mono ?_
  rintro _ w3 ⟨rfl, V3, c3⟩
  have G3 := aSync_good G2 kX
  have e3 : aSync kX ⟨16777216, -1, [⟨kX, a, 0⟩]⟩ = (0, ⟨16777216, -1, [⟨kX, a, a.length⟩]⟩) := rfl
  rw [e3] at V3 G3 ⊢
  dsimp only at V3 G3
  have l3 := chg_later l2 c3 hbk hr
  repeat' (first | (simp (disch := omega) only [push_cast, ↓reduceIte, zA, zG, zB, zH, zI, zC, zJ, zK, zL, zD, zE, zF, zM, zN, zO, zP, zQ, reduceCtorEq, not_true_eq_false, not_false_eq_true]) | (first | refine vIfE_of ?_ ?_ | refine vIfD_of ?_ ?_ | refine vIfQ_of ?_ ?_ | refine vIfV_of ?_ ?_) <;> intro _ | refine And.intro (by omega) ?_ | refine drawn_q ?_ | fail)
  refine (append_s bk r _ kX _ b w3 V3 G3 (by decide) (hsb.later l3) jB (by omega)).mono ?_
  rintro _ w4 ⟨rfl, V4, c4⟩
  have G4 := aApp_good G3 kX b
  have e4 : aApp kX b ⟨16777216, -1, [⟨kX, a, a.length⟩]⟩ = (0, ⟨16777216, -1, [⟨kX, a ++ b, a.length⟩]⟩) := app_ok rfl (by show brn (-1) ≠ 0; decide) (by show (b.length : Int) ≤ 16777216 - (a.length + 0); omega) (by show 1 < 200; decide)
  rw [e4] at V4 G4 ⊢
  dsimp only at V4 G4
  have l4 := chg_later l3 c4 hbk hr
  repeat' (first | (simp (disch := omega) only [push_cast, ↓reduceIte, zA, zG, zB, zH, zI, zC, zJ, zK, zL, zD, zE, zF, zM, zN, zO, zP, zQ, reduceCtorEq, not_true_eq_false, not_false_eq_true]) | (first | refine vIfE_of ?_ ?_ | refine vIfD_of ?_ ?_ | refine vIfQ_of ?_ ?_ | refine vIfV_of ?_ ?_) <;> intro _ | refine And.intro (by omega) ?_ | refine drawn_q ?_ | fail)
  refine (rename_s bk r _ kX kY w4 V4 G4 (by decide) (by decide)).mono ?_
  rintro _ w5 ⟨rfl, V5, c5⟩
  have G5 := aRen_good G4 kX kY
  have e5 : aRen kX kY ⟨16777216, -1, [⟨kX, a ++ b, a.length⟩]⟩ = (0, ⟨16777216, -1, [⟨kY, a ++ b, a.length⟩]⟩) := rfl
  rw [e5] at V5 G5 ⊢
  dsimp only at V5 G5
  have l5 := chg_later l4 c5 hbk hr
  repeat' (first | (simp (disch := omega) only [push_cast, ↓reduceIte, zA, zG, zB, zH, zI, zC, zJ, zK, zL, zD, zE, zF, zM, zN, zO, zP, zQ, reduceCtorEq, not_true_eq_false, not_false_eq_true]) | (first | refine vIfE_of ?_ ?_ | refine vIfD_of ?_ ?_ | refine vIfQ_of ?_ ?_ | refine vIfV_of ?_ ?_) <;> intro _ | refine And.intro (by omega) ?_ | refine drawn_q ?_ | fail)
  refine (append_s bk r _ kZ _ b w5 V5 G5 (by decide) (hsb.later l5) jB (by omega)).mono ?_
  rintro _ w6 ⟨rfl, V6, c6⟩
  have G6 := aApp_good G5 kZ b
  have e6 : aApp kZ b ⟨16777216, -1, [⟨kY, a ++ b, a.length⟩]⟩ = (0, ⟨16777216, -1, [⟨kY, a ++ b, a.length⟩, ⟨kZ, b, 0⟩]⟩) := app_ok rfl (by show brn (-1) ≠ 0; decide) (by show (b.length : Int) ≤ 16777216 - ((a ++ b).length + 0); rw [List.length_append]; omega) (by show 1 < 200; decide)
  rw [e6] at V6 G6 ⊢
  dsimp only at V6 G6
  have l6 := chg_later l5 c6 hbk hr
  repeat' (first | (simp (disch := omega) only [push_cast, ↓reduceIte, zA, zG, zB, zH, zI, zC, zJ, zK, zL, zD, zE, zF, zM, zN, zO, zP, zQ, reduceCtorEq, not_true_eq_false, not_false_eq_true]) | (first | refine vIfE_of ?_ ?_ | refine vIfD_of ?_ ?_ | refine vIfQ_of ?_ ?_ | refine vIfV_of ?_ ?_) <;> intro _ | refine And.intro (by omega) ?_ | refine drawn_q ?_ | fail)
  refine (crash_s bk r _ keep w6 V6 G6 hk).mono ?_
  rintro _ w7 ⟨⟨bc, rc, rfl, hb2, hr2, V7⟩, l67⟩
  have G7 := aCrash_good G6 keep
  obtain ⟨n, hn⟩ : ∃ n : Nat, n = min (max keep 0).toNat b.length := ⟨_, rfl⟩
  have e7 : aCrash keep ⟨16777216, -1, [⟨kY, a ++ b, a.length⟩, ⟨kZ, b, 0⟩]⟩ = ⟨16777216, -1, [⟨kY, a ++ b.take n, a.length + n⟩, ⟨kZ, b.take n, n⟩]⟩ := by
    have h1 : crN keep (a ++ b, a.length) = a.length + n := by unfold crN; rw [hn]; dsimp only; rw [List.length_append]; congr 2; omega
    have h2 : crN keep (b, 0) = n := by unfold crN; rw [hn]; dsimp only; omega
    unfold aCrash crF cr
    simp only [List.map_cons, List.map_nil, h1, h2, take_more]
  rw [e7] at V7 G7
  clear e2 e3 e4 e5 e6 e7
  repeat' (first | (simp (disch := omega) only [push_cast, ↓reduceIte, zA, zG, zB, zH, zI, zC, zJ, zK, zL, zD, zE, zF, zM, zN, zO, zP, zQ, reduceCtorEq, not_true_eq_false, not_false_eq_true]) | (first | refine vIfE_of ?_ ?_ | refine vIfD_of ?_ ?_ | refine vIfQ_of ?_ ?_ | refine vIfV_of ?_ ?_) <;> intro _ | refine And.intro (by omega) ?_ | refine drawn_q ?_ | fail)
  refine (read_s bc rc _ kY w7 V7 G7).mono ?_
  rintro _ w8 ⟨⟨x, rfl, hx⟩, l78⟩
  have e8 : (lk kY [⟨kY, a ++ b.take n, a.length + n⟩, ⟨kZ, b.take n, n⟩]).isSome = true := rfl
  have e8' : oB kY [⟨kY, a ++ b.take n, a.length + n⟩, ⟨kZ, b.take n, n⟩] = a ++ b.take n := rfl
  rw [e8'] at hx
  rw [e8]
  have V8 := V7.later l78
  obtain ⟨xo, xc, rfl⟩ := hx.slice
  repeat' (first | (simp (disch := omega) only [push_cast, ↓reduceIte, zA, zG, zB, zH, zI, zC, zJ, zK, zL, zD, zE, zF, zM, zN, zO, zP, zQ, reduceCtorEq, not_true_eq_false, not_false_eq_true]) | (first | refine vIfE_of ?_ ?_ | refine vIfD_of ?_ ?_ | refine vIfQ_of ?_ ?_ | refine vIfV_of ?_ ?_) <;> intro _ | refine And.intro (by omega) ?_ | refine drawn_q ?_ | fail)
  refine (read_s bc rc _ kZ w8 V8 G7).mono ?_
  rintro _ w9 ⟨⟨z, rfl, hz⟩, l89⟩
  have e9 : (lk kZ [⟨kY, a ++ b.take n, a.length + n⟩, ⟨kZ, b.take n, n⟩]).isSome = true := rfl
  have e9' : oB kZ [⟨kY, a ++ b.take n, a.length + n⟩, ⟨kZ, b.take n, n⟩] = b.take n := rfl
  rw [e9'] at hz
  rw [e9]
  have V9 := V8.later l89
  obtain ⟨zo, zc, rfl⟩ := hz.slice
  repeat' (first | (simp (disch := omega) only [push_cast, ↓reduceIte, zA, zG, zB, zH, zI, zC, zJ, zK, zL, zD, zE, zF, zM, zN, zO, zP, zQ, reduceCtorEq, not_true_eq_false, not_false_eq_true]) | (first | refine vIfE_of ?_ ?_ | refine vIfD_of ?_ ?_ | refine vIfQ_of ?_ ?_ | refine vIfV_of ?_ ?_) <;> intro _ | refine And.intro (by omega) ?_ | refine drawn_q ?_ | fail)
  refine (read_s bc rc _ kX w9 V9 G7).mono ?_
  rintro _ w10 ⟨⟨y, rfl, hy⟩, l910⟩
  have e10 : (lk kX [⟨kY, a ++ b.take n, a.length + n⟩, ⟨kZ, b.take n, n⟩]).isSome = false := rfl
  rw [e10]
  have V10 := V9.later l910
  obtain ⟨yo, yc, rfl⟩ := hy.slice
  repeat' (first | (simp (disch := omega) only [push_cast, ↓reduceIte, zA, zG, zB, zH, zI, zC, zJ, zK, zL, zD, zE, zF, zM, zN, zO, zP, zQ, reduceCtorEq, not_true_eq_false, not_false_eq_true]) | (first | refine vIfE_of ?_ ?_ | refine vIfD_of ?_ ?_ | refine vIfQ_of ?_ ?_ | refine vIfV_of ?_ ?_) <;> intro _ | refine And.intro (by omega) ?_ | refine drawn_q ?_ | fail)
  refine (crash_s bc rc _ 0 w10 V10 G7 (by omega)).mono ?_
  rintro _ w11 ⟨⟨bd, rd, rfl, hb3, hr3, V11⟩, l1011⟩
  have G11 := aCrash_good G7 0
  have hnb : (b.take n).length = n := by rw [List.length_take]; omega
  have e11 : aCrash 0 ⟨16777216, -1, [⟨kY, a ++ b.take n, a.length + n⟩, ⟨kZ, b.take n, n⟩]⟩ = ⟨16777216, -1, [⟨kY, a ++ b.take n, a.length + n⟩, ⟨kZ, b.take n, n⟩]⟩ := by
    have h1 : crN 0 (a ++ b.take n, a.length + n) = a.length + n := by unfold crN; dsimp only; rw [List.length_append, hnb]; omega
    have h2 : crN 0 (b.take n, n) = n := by unfold crN; dsimp only; rw [hnb]; omega
    have h3 : (a ++ b.take n).take (a.length + n) = a ++ b.take n := List.take_of_length_le (by rw [List.length_append, hnb]; omega)
    have h4 : (b.take n).take n = b.take n := List.take_of_length_le (by omega)
    unfold aCrash crF cr
    simp only [List.map_cons, List.map_nil, h1, h2, h3, h4]
  rw [e11] at V11 G11
  repeat' (first | (simp (disch := omega) only [push_cast, ↓reduceIte, zA, zG, zB, zH, zI, zC, zJ, zK, zL, zD, zE, zF, zM, zN, zO, zP, zQ, reduceCtorEq, not_true_eq_false, not_false_eq_true]) | (first | refine vIfE_of ?_ ?_ | refine vIfD_of ?_ ?_ | refine vIfQ_of ?_ ?_ | refine vIfV_of ?_ ?_) <;> intro _ | refine And.intro (by omega) ?_ | refine drawn_q ?_ | fail)
  refine (read_s bd rd _ kY w11 V11 G11).mono ?_
  rintro _ w12 ⟨⟨u, rfl, hu⟩, l1112⟩
  rw [e8'] at hu
  rw [e8]
  obtain ⟨uo, uc, rfl⟩ := hu.slice
  have l712 := l78.trans (l89.trans (l910.trans (l1011.trans l1112)))
  have l612 := l67.trans l712
  repeat' (first | (simp (disch := omega) only [push_cast, ↓reduceIte, zA, zG, zB, zH, zI, zC, zJ, zK, zL, zD, zE, zF, zM, zN, zO, zP, zQ, reduceCtorEq, not_true_eq_false, not_false_eq_true]) | (first | refine vIfE_of ?_ ?_ | refine vIfD_of ?_ ?_ | refine vIfQ_of ?_ ?_ | refine vIfV_of ?_ ?_) <;> intro _ | refine And.intro (by omega) ?_ | refine drawn_q ?_ | fail)
  refine (read_s bk r _ kY w12 (V6.later l612) G6).mono ?_
  rintro _ w13 ⟨⟨t, rfl, ht⟩, l1213⟩
  have e13 : (lk kY [⟨kY, a ++ b, a.length⟩, ⟨kZ, b, 0⟩]).isSome = true := rfl
  have e13' : oB kY [⟨kY, a ++ b, a.length⟩, ⟨kZ, b, 0⟩] = a ++ b := rfl
  rw [e13'] at ht
  rw [e13]
  obtain ⟨to, tc, rfl⟩ := ht.slice
  repeat' (first | (simp (disch := omega) only [push_cast, ↓reduceIte, zA, zG, zB, zH, zI, zC, zJ, zK, zL, zD, zE, zF, zM, zN, zO, zP, zQ, reduceCtorEq, not_true_eq_false, not_false_eq_true]) | (first | refine vIfE_of ?_ ?_ | refine vIfD_of ?_ ?_ | refine vIfQ_of ?_ ?_ | refine vIfV_of ?_ ?_) <;> intro _ | refine And.intro (by omega) ?_ | refine drawn_q ?_ | fail)
  have lw := l6.trans (l612.trans l1213)
  have sx := hx.sl.later (l89.trans (l910.trans (l1011.trans (l1112.trans l1213))))
  have sz := hz.sl.later (l910.trans (l1011.trans (l1112.trans l1213)))
  have su := hu.sl.later l1213
  have st := ht.sl
  have sa := hsa.later lw
  have sb := hsb.later lw
  have hni : (n : Int) = min (max keep 0) (b.length : Int) := by omega
  have sbn : Sl w13 (.slice ob n cb) ((b.take n).map u8v) := by rw [List.map_take]; exact sb.pre (by omega)
  clear l1 l2 l3 l4 l5 l6 l67 l78 l89 l910 l1011 l1112 l1213 l712 l612 V1 V2 V3 V4 V5 V6 V7 V8 V9 V10 V11 G1 G2 G3 G4 G5 G6 G7 G11 hx hz hy hu ht c2 c3 c4 c5 c6
  refine QFn.of hb15 (v := .bool true) (fun w' _ => alive_c w') ?_
  have hnl : n ≤ b.length := by omega
  simp only [List.length_append, hnb] at sx sz su st
  repeat' (first | (simp (disch := omega) only [push_cast, ↓reduceIte, zA, zG, zB, zH, zI, zC, zJ, zK, zL, zD, zE, zF, zM, zN, zO, zP, zQ, reduceCtorEq, not_true_eq_false, not_false_eq_true, ← hni, List.length_append, hnb]) | (first | refine vIfE_of ?_ ?_ | refine vIfD_of ?_ ?_ | refine vIfQ_of ?_ ?_ | refine vIfV_of ?_ ?_) <;> intro _ | refine And.intro (by omega) ?_ | refine drawn_q ?_ | fail)
  refine qConv_bytes Try.underlying22 Try.underlying9 Try.underlying5 (by simp (disch := omega) only [push_cast, ↓reduceIte, zA, zG, zB, zH, zI, zC, zJ, zK, zL, zD, zE, zF, zM, zN, zO, zP, zQ, reduceCtorEq, not_true_eq_false, not_false_eq_true]) sx ?_
  repeat' (first | (simp (disch := omega) only [push_cast, ↓reduceIte, zA, zG, zB, zH, zI, zC, zJ, zK, zL, zD, zE, zF, zM, zN, zO, zP, zQ, reduceCtorEq, not_true_eq_false, not_false_eq_true, ← hni, strOf_append, strOf_inj, strOf_size, List.length_append, hnb, decide_true]) | (first | refine vIfE_of ?_ ?_ | refine vIfD_of ?_ ?_ | refine vIfQ_of ?_ ?_ | refine vIfV_of ?_ ?_) <;> intro _ | refine And.intro (by omega) ?_ | refine drawn_q ?_ | fail)
  refine qConv_bytes Try.underlying22 Try.underlying9 Try.underlying5 (by simp (disch := omega) only [push_cast, ↓reduceIte, zA, zG, zB, zH, zI, zC, zJ, zK, zL, zD, zE, zF, zM, zN, zO, zP, zQ, reduceCtorEq, not_true_eq_false, not_false_eq_true]) sa ?_
  repeat' (first | (simp (disch := omega) only [push_cast, ↓reduceIte, zA, zG, zB, zH, zI, zC, zJ, zK, zL, zD, zE, zF, zM, zN, zO, zP, zQ, reduceCtorEq, not_true_eq_false, not_false_eq_true, ← hni, strOf_append, strOf_inj, strOf_size, List.length_append, hnb, decide_true]) | (first | refine vIfE_of ?_ ?_ | refine vIfD_of ?_ ?_ | refine vIfQ_of ?_ ?_ | refine vIfV_of ?_ ?_) <;> intro _ | refine And.intro (by omega) ?_ | refine drawn_q ?_ | fail)
  refine qConv_bytes Try.underlying22 Try.underlying9 Try.underlying5 (by simp (disch := omega) only [push_cast, ↓reduceIte, zA, zG, zB, zH, zI, zC, zJ, zK, zL, zD, zE, zF, zM, zN, zO, zP, zQ, reduceCtorEq, not_true_eq_false, not_false_eq_true]) sbn ?_
  repeat' (first | (simp (disch := omega) only [push_cast, ↓reduceIte, zA, zG, zB, zH, zI, zC, zJ, zK, zL, zD, zE, zF, zM, zN, zO, zP, zQ, reduceCtorEq, not_true_eq_false, not_false_eq_true, ← hni, strOf_append, strOf_inj, strOf_size, List.length_append, hnb, decide_true]) | (first | refine vIfE_of ?_ ?_ | refine vIfD_of ?_ ?_ | refine vIfQ_of ?_ ?_ | refine vIfV_of ?_ ?_) <;> intro _ | refine And.intro (by omega) ?_ | refine drawn_q ?_ | fail)
  refine qConv_bytes Try.underlying22 Try.underlying9 Try.underlying5 (by simp (disch := omega) only [push_cast, ↓reduceIte, zA, zG, zB, zH, zI, zC, zJ, zK, zL, zD, zE, zF, zM, zN, zO, zP, zQ, reduceCtorEq, not_true_eq_false, not_false_eq_true]) sz ?_
  repeat' (first | (simp (disch := omega) only [push_cast, ↓reduceIte, zA, zG, zB, zH, zI, zC, zJ, zK, zL, zD, zE, zF, zM, zN, zO, zP, zQ, reduceCtorEq, not_true_eq_false, not_false_eq_true, ← hni, strOf_append, strOf_inj, strOf_size, List.length_append, hnb, decide_true]) | (first | refine vIfE_of ?_ ?_ | refine vIfD_of ?_ ?_ | refine vIfQ_of ?_ ?_ | refine vIfV_of ?_ ?_) <;> intro _ | refine And.intro (by omega) ?_ | refine drawn_q ?_ | fail)
  refine qConv_bytes Try.underlying22 Try.underlying9 Try.underlying5 (by simp (disch := omega) only [push_cast, ↓reduceIte, zA, zG, zB, zH, zI, zC, zJ, zK, zL, zD, zE, zF, zM, zN, zO, zP, zQ, reduceCtorEq, not_true_eq_false, not_false_eq_true]) sbn ?_
  repeat' (first | (simp (disch := omega) only [push_cast, ↓reduceIte, zA, zG, zB, zH, zI, zC, zJ, zK, zL, zD, zE, zF, zM, zN, zO, zP, zQ, reduceCtorEq, not_true_eq_false, not_false_eq_true, ← hni, strOf_append, strOf_inj, strOf_size, List.length_append, hnb, decide_true]) | (first | refine vIfE_of ?_ ?_ | refine vIfD_of ?_ ?_ | refine vIfQ_of ?_ ?_ | refine vIfV_of ?_ ?_) <;> intro _ | refine And.intro (by omega) ?_ | refine drawn_q ?_ | fail)
  refine qConv_bytes Try.underlying22 Try.underlying9 Try.underlying5 (by simp (disch := omega) only [push_cast, ↓reduceIte, zA, zG, zB, zH, zI, zC, zJ, zK, zL, zD, zE, zF, zM, zN, zO, zP, zQ, reduceCtorEq, not_true_eq_false, not_false_eq_true]) su ?_
  repeat' (first | (simp (disch := omega) only [push_cast, ↓reduceIte, zA, zG, zB, zH, zI, zC, zJ, zK, zL, zD, zE, zF, zM, zN, zO, zP, zQ, reduceCtorEq, not_true_eq_false, not_false_eq_true, ← hni, strOf_append, strOf_inj, strOf_size, List.length_append, hnb, decide_true]) | (first | refine vIfE_of ?_ ?_ | refine vIfD_of ?_ ?_ | refine vIfQ_of ?_ ?_ | refine vIfV_of ?_ ?_) <;> intro _ | refine And.intro (by omega) ?_ | refine drawn_q ?_ | fail)
  refine qConv_bytes Try.underlying22 Try.underlying9 Try.underlying5 (by simp (disch := omega) only [push_cast, ↓reduceIte, zA, zG, zB, zH, zI, zC, zJ, zK, zL, zD, zE, zF, zM, zN, zO, zP, zQ, reduceCtorEq, not_true_eq_false, not_false_eq_true]) sx ?_
  repeat' (first | (simp (disch := omega) only [push_cast, ↓reduceIte, zA, zG, zB, zH, zI, zC, zJ, zK, zL, zD, zE, zF, zM, zN, zO, zP, zQ, reduceCtorEq, not_true_eq_false, not_false_eq_true, ← hni, strOf_append, strOf_inj, strOf_size, List.length_append, hnb, decide_true]) | (first | refine vIfE_of ?_ ?_ | refine vIfD_of ?_ ?_ | refine vIfQ_of ?_ ?_ | refine vIfV_of ?_ ?_) <;> intro _ | refine And.intro (by omega) ?_ | refine drawn_q ?_ | fail)
  refine qConv_bytes Try.underlying22 Try.underlying9 Try.underlying5 (by simp (disch := omega) only [push_cast, ↓reduceIte, zA, zG, zB, zH, zI, zC, zJ, zK, zL, zD, zE, zF, zM, zN, zO, zP, zQ, reduceCtorEq, not_true_eq_false, not_false_eq_true]) st ?_
  repeat' (first | (simp (disch := omega) only [push_cast, ↓reduceIte, zA, zG, zB, zH, zI, zC, zJ, zK, zL, zD, zE, zF, zM, zN, zO, zP, zQ, reduceCtorEq, not_true_eq_false, not_false_eq_true, ← hni, strOf_append, strOf_inj, strOf_size, List.length_append, hnb, decide_true]) | (first | refine vIfE_of ?_ ?_ | refine vIfD_of ?_ ?_ | refine vIfQ_of ?_ ?_ | refine vIfV_of ?_ ?_) <;> intro _ | refine And.intro (by omega) ?_ | refine drawn_q ?_ | fail)
  refine qConv_bytes Try.underlying22 Try.underlying9 Try.underlying5 (by simp (disch := omega) only [push_cast, ↓reduceIte, zA, zG, zB, zH, zI, zC, zJ, zK, zL, zD, zE, zF, zM, zN, zO, zP, zQ, reduceCtorEq, not_true_eq_false, not_false_eq_true]) sa ?_
  repeat' (first | (simp (disch := omega) only [push_cast, ↓reduceIte, zA, zG, zB, zH, zI, zC, zJ, zK, zL, zD, zE, zF, zM, zN, zO, zP, zQ, reduceCtorEq, not_true_eq_false, not_false_eq_true, ← hni, strOf_append, strOf_inj, strOf_size, List.length_append, hnb, decide_true]) | (first | refine vIfE_of ?_ ?_ | refine vIfD_of ?_ ?_ | refine vIfQ_of ?_ ?_ | refine vIfV_of ?_ ?_) <;> intro _ | refine And.intro (by omega) ?_ | refine drawn_q ?_ | fail)
  refine qConv_bytes Try.underlying22 Try.underlying9 Try.underlying5 (by simp (disch := omega) only [push_cast, ↓reduceIte, zA, zG, zB, zH, zI, zC, zJ, zK, zL, zD, zE, zF, zM, zN, zO, zP, zQ, reduceCtorEq, not_true_eq_false, not_false_eq_true]) sb ?_
  repeat' (first | (simp (disch := omega) only [push_cast, ↓reduceIte, zA, zG, zB, zH, zI, zC, zJ, zK, zL, zD, zE, zF, zM, zN, zO, zP, zQ, reduceCtorEq, not_true_eq_false, not_false_eq_true, ← hni, strOf_append, strOf_inj, strOf_size, List.length_append, hnb, decide_true]) | (first | refine vIfE_of ?_ ?_ | refine vIfD_of ?_ ?_ | refine vIfQ_of ?_ ?_ | refine vIfV_of ?_ ?_) <;> intro _ | refine And.intro (by omega) ?_ | refine drawn_q ?_ | fail)
  exact fun w' hl => lw.trans hl
theorem own : ownKnob Try.prog.godebug = none := by kernel_rfl
theorem lifted (os : Os) (started : os.Started) (H : Type) (enc : TypeId × Value → H) :
    ReturnsInHanded {} Try.checked os 3 .any (Rows.vaultSafeSpec.pre6 enc Try.prog Try.f3 Rows.vaultSafeRow.domain false) (Rows.vaultSafeSpec.post enc Try.prog Try.f3 false true false false) := by
  refine lifted_later (C := Try.checked) own started (by kernel_rfl) Try.func3 hb3
    (ChangeSpec.witness6 (enc := enc) (C := Try.checked) false ⟨#[], #[.slice none 0 0, .slice none 0 0, .int .i64 0], []⟩ 3 (by kernel_rfl) (by kernel_rfl) (by kernel_rfl) (by kernel_rfl))
    (by kernel_rfl) (list_all (by kernel_rfl)) (by kernel_rfl) Try.underlying4 rfl ?_ ?_
  · intro ds h
    have h : ds.length = 3 := h
    match ds, h with
    | [_, _, _], _ => rfl
  · intro W base args ds p hval0 hA0
    have hval : ∀ (j : Nat) t v, Try.f3.params[j]? = some t → args[j]? = some v → Value.okWide Try.prog W .any base t v := hval0
    have hA : DataW.TrodAll enc Try.prog W 0 (fun _ => true) true Try.f3.params.toList args.toList ds p := hA0
    rw [Try.params3] at hA hval
    obtain ⟨v0, vs0, d0, ds0, p0, q0, hargs, rfl, rfl, h0, r0⟩ := trodAll_cons hA
    obtain ⟨v1, vs1, d1, ds1, p1, q1, rfl, rfl, rfl, h1, r1⟩ := trodAll_cons r0
    obtain ⟨v2, vs2, d2, ds2, p2, q2, rfl, rfl, rfl, h2, r2⟩ := trodAll_cons r1
    obtain ⟨rfl, rfl, rfl⟩ := trodAll_nil r2
    obtain rfl : args = #[v0, v1, v2] := by cases args; simp_all
    obtain ⟨a0, w0⟩ := open_u8s Try.underlying22 Try.underlying5 (by kernel_rfl) (hval 0 22 v0 rfl rfl) h0
    obtain ⟨a1, w1⟩ := open_u8s Try.underlying22 Try.underlying5 (by kernel_rfl) (hval 1 22 v1 rfl rfl) h1
    obtain ⟨a2, rfl, rfl, rfl, w2⟩ := open_int Try.underlying3 (hval 2 3 v2 rfl rfl) h2
    exact law_c v0 v1 a0 a1 a2 W w0 w1 (i64_of_wf w2)
theorem over : Rows.vaultSafeRow.holds Try.pinned (OpenSpec.ofChange Rows.vaultSafeSpec) :=
  OpenClaim.holds_of_wide 3 Try.f3 rfl rfl rfl rfl rfl rfl rfl ⟨rfl, rfl, rfl, rfl, rfl⟩ rfl rfl rfl rfl rfl (by kernel_rfl) Try.func3 (by kernel_rfl)
    (of_decide_eq_true (by kernel_rfl)) (by unfold Func.isWrapper; first | (rw [if_pos (by decide +kernel)]; kernel_rfl) | (rw [if_neg (by decide +kernel)]; exact ⟨rfl, rfl⟩))
    (fun os started H enc _ => lifted os started H enc)
/-- The statement. -/
theorem proved : Rows.VaultSafeSaid :=
  over
end Go.Proofs.Ytmfcnooleejgmaa.vaultSafe
