/- 'TyperUsed': a typed query is typed for the schema of just the dimensions that it uses, and without one of them it is not. -/
import Derived.Test.YtnofalhkapmcnaaRows
import Derived.Test.YtnofalhkapmcnaaPartH
set_option linter.all false
open Nat renaming reduceEqDiff → zA, reducePow → zB, reduceMul → zC, reduceAdd → zD, reduceSub → zE, reduceLeDiff → zF
open Int renaming reduceToNat → zG, reducePow → zH, reduceNeg → zI, reduceMul → zJ, reduceAdd → zK, reduceSub → zL, reduceLT → zM, reduceLE → zN, reduceEq → zO, reduceMod → zP, reduceDiv → zQ
set_option linter.unusedSimpArgs false
namespace Go.Proofs.Ytnofalhkapmcnaa.typerUsed
open Go.Vc Go.Key Go.Bkt Go.RowKit Go.ChangeShapes
set_option maxRecDepth 100000
theorem and_lo (n : Int) : 0 ≤ bitI .and .i64 n 1023 ∧ bitI .and .i64 n 1023 ≤ 1023 := by
  have e : bitI .and .i64 n 1023 = IntKind.i64.wrap ((BitVec.ofInt 64 n &&& BitVec.ofInt 64 1023).toNat : Int) := rfl
  have h2 : (BitVec.ofInt 64 1023).toNat = 1023 := rfl
  have h3 : (BitVec.ofInt 64 n &&& BitVec.ofInt 64 1023).toNat ≤ 1023 := by
    rw [BitVec.toNat_and, h2]
    exact Nat.and_le_right
  rw [e]
  generalize (BitVec.ofInt 64 n &&& BitVec.ofInt 64 1023).toNat = x at *
  have : IntKind.i64.wrap (x : Int) = (x : Int) := by simp (disch := omega) only [push_cast, ↓reduceIte, zA, zG, zB, zH, zI, zC, zJ, zK, zL, zD, zE, zF, zM, zN, zO, zP, zQ, reduceCtorEq, not_true_eq_false, not_false_eq_true]
  rw [this]
  omega
set_option maxHeartbeats 4000000 in
theorem law_c (dv mv : Value) (d m : List ByteArray) (q : QD) (i : Int) (w : World) (h : ScIs w dv mv d m) (hq : q.Ok w) (hi : I64 i) : FnC Try.prog 8 #[scV dv mv, .agg (qdC q).toArray, .int .i64 i] w fun v w' => v = .bool true ∧ Later w w' := by
  have esc : scV dv mv = .agg #[dv, mv] := rfl
  rw [esc]
  refine enter8 _ _ _ ?_
  unfold B8
  obtain ⟨mo, mc, hmv⟩ := Sl.slice h.mS
  rw [List.length_map] at hmv
  have eca : (Value.agg (qdC q).toArray).cells = (qdC q).toArray := rfl
  have ecb : (Value.agg #[dv, mv]).cells = #[dv, mv] := rfl
  obtain ⟨l1, s1, F⟩ := box2 w dv mv 24
  have B2 := Blk.new (w.alloc (.cells #[dv, mv] 24)) (qdC q).toArray 42
  have l2 := later_alloc (w.alloc (.cells #[dv, mv] 24)) (.cells (qdC q).toArray 42)
  rw [s1] at B2
  repeat' (first | (simp (disch := omega) only [push_cast, ↓reduceIte, zA, zG, zB, zH, zI, zC, zJ, zK, zL, zD, zE, zF, zM, zN, zO, zP, zQ, reduceCtorEq, not_true_eq_false, not_false_eq_true, eca, ecb, s1]) | (first | refine iE ?_ ?_ | refine iD ?_ ?_ | refine iQ ?_ ?_ | refine iV ?_ ?_) <;> intro _ | refine And.intro (by omega) ?_ | fail)
  have l12 := l1.trans l2
  have FF : ∀ w', Later ((w.alloc (.cells #[dv, mv] 24)).alloc (.cells (qdC q).toArray 42)) w' → cellsAt w' ⟨w.heap.size, 0, none⟩ 2 = some [dv, mv] ∧ w'.cell? ⟨w.heap.size, 1, none⟩ = some mv := fun w' hl => ⟨(F w' (l2.trans hl)).2.2, (F w' (l2.trans hl)).2.1⟩
  clear F
  generalize (w.alloc (.cells #[dv, mv] 24)).alloc (.cells (qdC q).toArray 42) = w1 at *
  generalize hkf : w.heap.size = kf at *
  have h1 := h.later l12
  have q1 := hq.later l12
  have QQ : ∀ w', Later w1 w' → cellsAt w' ⟨kf + 1, 0, none⟩ 12 = some (qdC q) := fun w' hl => Blk.cellsAt (l := qdC q) (qdLater B2 hl)
  have c1 := QQ w1 (Later.refl _)
  have f1 := (FF w1 (Later.refl _)).1
  repeat' (first | (simp (disch := omega) only [push_cast, ↓reduceIte, zA, zG, zB, zH, zI, zC, zJ, zK, zL, zD, zE, zF, zM, zN, zO, zP, zQ, reduceCtorEq, not_true_eq_false, not_false_eq_true, c1, f1]) | (first | refine iE ?_ ?_ | refine iD ?_ ?_ | refine iQ ?_ ?_ | refine iV ?_ ?_) <;> intro _ | refine And.intro (by omega) ?_ | refine drawn_q ?_ | fail)
  refine (fits23_c dv mv d m q w1 h1 q1).mono ?_
  rintro _ w2 ⟨rfl, l3⟩
  cases hf : f23 d m q with
  | false =>
    repeat' (first | (simp (disch := omega) only [push_cast, ↓reduceIte, zA, zG, zB, zH, zI, zC, zJ, zK, zL, zD, zE, zF, zM, zN, zO, zP, zQ, reduceCtorEq, not_true_eq_false, not_false_eq_true]) | (first | refine iE ?_ ?_ | refine iD ?_ ?_ | refine iQ ?_ ?_ | refine iV ?_ ?_) <;> intro _ | refine And.intro (by omega) ?_ | refine drawn_q ?_ | fail)
    refine (alive23_c w2).mono ?_
    rintro _ w3 ⟨rfl, l4⟩
    repeat' (first | (simp (disch := omega) only [push_cast, ↓reduceIte, zA, zG, zB, zH, zI, zC, zJ, zK, zL, zD, zE, zF, zM, zN, zO, zP, zQ, reduceCtorEq, not_true_eq_false, not_false_eq_true]) | (first | refine iE ?_ ?_ | refine iD ?_ ?_ | refine iQ ?_ ?_ | refine iV ?_ ?_) <;> intro _ | refine And.intro (by omega) ?_ | refine drawn_q ?_ | fail)
    first | exact ⟨rfl, (l12.trans (l3.trans l4))⟩ | exact (l12.trans (l3.trans l4))
  | true =>
  obtain ⟨hsc, htl, hhl, hbl, hcn, hdp⟩ := f23_ft hf
  have c2 := QQ w2 l3
  have f2 := (FF w2 l3).1
  repeat' (first | (simp (disch := omega) only [push_cast, ↓reduceIte, zA, zG, zB, zH, zI, zC, zJ, zK, zL, zD, zE, zF, zM, zN, zO, zP, zQ, reduceCtorEq, not_true_eq_false, not_false_eq_true, c2, f2]) | (first | refine iE ?_ ?_ | refine iD ?_ ?_ | refine iQ ?_ ?_ | refine iV ?_ ?_) <;> intro _ | refine And.intro (by omega) ?_ | refine drawn_q ?_ | fail)
  refine (tcheck_c dv mv d m q w2 (h1.later l3) (q1.later l3) (by omega) (by omega) (by omega) (by omega)).mono ?_
  rintro _ w3 ⟨rfl, l4⟩
  have l34 := l3.trans l4
  have l04 := l12.trans l34
  by_cases hck : ckQ d m q = 0
  case neg =>
    have dk : decide (ckQ d m q = 0) = false := decide_eq_false hck
    have dk2 : decide (¬ ckQ d m q = 0) = true := decide_eq_true hck
    repeat' (first | (simp (disch := omega) only [push_cast, ↓reduceIte, zA, zG, zB, zH, zI, zC, zJ, zK, zL, zD, zE, zF, zM, zN, zO, zP, zQ, reduceCtorEq, not_true_eq_false, not_false_eq_true, dk, dk2]) | (first | refine iE ?_ ?_ | refine iD ?_ ?_ | refine iQ ?_ ?_ | refine iV ?_ ?_) <;> intro _ | refine And.intro (by omega) ?_ | refine drawn_q ?_ | fail)
    refine (alive23_c w3).mono ?_
    rintro _ w4 ⟨rfl, l5⟩
    repeat' (first | (simp (disch := omega) only [push_cast, ↓reduceIte, zA, zG, zB, zH, zI, zC, zJ, zK, zL, zD, zE, zF, zM, zN, zO, zP, zQ, reduceCtorEq, not_true_eq_false, not_false_eq_true]) | (first | refine iE ?_ ?_ | refine iD ?_ ?_ | refine iQ ?_ ?_ | refine iV ?_ ?_) <;> intro _ | refine And.intro (by omega) ?_ | refine drawn_q ?_ | fail)
    first | exact ⟨rfl, (l04.trans l5)⟩ | exact (l04.trans l5)
  obtain ⟨hsh, hns, htp⟩ := ck0 hck
  rw [hck]
  have c3 := QQ w3 l34
  have f3 := (FF w3 l34).1
  repeat' (first | (simp (disch := omega) only [push_cast, ↓reduceIte, zA, zG, zB, zH, zI, zC, zJ, zK, zL, zD, zE, zF, zM, zN, zO, zP, zQ, reduceCtorEq, not_true_eq_false, not_false_eq_true, c3, f3, decide_true]) | (first | refine iE ?_ ?_ | refine iD ?_ ?_ | refine iQ ?_ ?_ | refine iV ?_ ?_) <;> intro _ | refine And.intro (by omega) ?_ | refine drawn_q ?_ | fail)
  refine (tused_c dv mv d m q w3 (h1.later l34) (q1.later l34) (by omega) (by omega) (by have := hsc.2.2.2.1; omega)).mono ?_
  rintro uv w4 ⟨hU, l5⟩
  obtain ⟨uo, uc, huv⟩ := Sl.slice hU
  rw [List.length_map] at huv
  have l35 := l34.trans l5
  have hul : (usedL d q).length ≤ d.length := List.length_filter_le _ _
  have hall : nsOk (usedL d q) m q = true := used_all hns
  have hless := @used_less d m q (List.pairwise_append.1 hsc.2.1).1
  have c4 := QQ w4 l35
  obtain ⟨f4, g4⟩ := FF w4 l35
  have UZ : StZ (usedL d q) := fun s hs => h.dZ s (used_mem.1 hs).1
  rcases Nat.eq_zero_or_pos (usedL d q).length with hz | hz
  · have hnil : usedL d q = [] := List.length_eq_zero_iff.1 hz
    rw [hnil] at hall
    have dz : decide (((usedL d q).length : Int) = 0) = true := decide_eq_true (by omega)
    rw [huv]
    repeat' (first | (simp (disch := omega) only [push_cast, ↓reduceIte, zA, zG, zB, zH, zI, zC, zJ, zK, zL, zD, zE, zF, zM, zN, zO, zP, zQ, reduceCtorEq, not_true_eq_false, not_false_eq_true, dz]) | (first | refine iE ?_ ?_ | refine iD ?_ ?_ | refine iQ ?_ ?_ | refine iV ?_ ?_) <;> intro _ | refine And.intro (by omega) ?_ | refine drawn_q ?_ | fail)
    refine (alive23_c w4).mono ?_
    rintro _ w5 ⟨rfl, l6⟩
    have l36 := l35.trans l6
    have c5 := QQ w5 l36
    obtain ⟨f5, g5⟩ := FF w5 l36
    rw [hmv] at g5
    repeat' (first | (simp (disch := omega) only [push_cast, ↓reduceIte, zA, zG, zB, zH, zI, zC, zJ, zK, zL, zD, zE, zF, zM, zN, zO, zP, zQ, reduceCtorEq, not_true_eq_false, not_false_eq_true, c5, g5, addr_add_eq, Nat.zero_add]) | (first | refine iE ?_ ?_ | refine iD ?_ ?_ | refine iQ ?_ ?_ | refine iV ?_ ?_) <;> intro _ | refine And.intro (by omega) ?_ | refine drawn_q ?_ | fail)
    have hS : ScIs w5 (.slice none 0 0) mv [] m := ⟨Sl.nil w5, (h1.later l36).mS, fun s hs => by simp at hs, h.mZ⟩
    rw [hmv] at hS
    refine (tcheck_c _ _ [] m q w5 hS (q1.later l36) (by omega) (by omega) (by omega) (by omega)).mono ?_
    rintro _ w6 ⟨rfl, l7⟩
    rw [ck_of hsh htp, if_pos hall]
    repeat' (first | (simp (disch := omega) only [push_cast, ↓reduceIte, zA, zG, zB, zH, zI, zC, zJ, zK, zL, zD, zE, zF, zM, zN, zO, zP, zQ, reduceCtorEq, not_true_eq_false, not_false_eq_true, decide_true]) | (first | refine iE ?_ ?_ | refine iD ?_ ?_ | refine iQ ?_ ?_ | refine iV ?_ ?_) <;> intro _ | refine And.intro (by omega) ?_ | refine drawn_q ?_ | fail)
    first | exact ⟨rfl, (l12.trans (l36.trans l7))⟩ | exact (l12.trans (l36.trans l7))
  have dz : decide (((usedL d q).length : Int) = 0) = false := decide_eq_false (by omega)
  have g4b := g4
  rw [hmv] at g4b
  rw [huv] at hU ⊢
  repeat' (first | (simp (disch := omega) only [push_cast, ↓reduceIte, zA, zG, zB, zH, zI, zC, zJ, zK, zL, zD, zE, zF, zM, zN, zO, zP, zQ, reduceCtorEq, not_true_eq_false, not_false_eq_true, dz, c4, g4b, addr_add_eq, Nat.zero_add]) | (first | refine iE ?_ ?_ | refine iD ?_ ?_ | refine iQ ?_ ?_ | refine iV ?_ ?_) <;> intro _ | refine And.intro (by omega) ?_ | refine drawn_q ?_ | fail)
  have hS : ScIs w4 (.slice uo (usedL d q).length uc) mv (usedL d q) m := ⟨hU, (h1.later l35).mS, UZ, h.mZ⟩
  rw [hmv] at hS
  refine (tcheck_c _ _ (usedL d q) m q w4 hS (q1.later l35) (by omega) (by omega) (by omega) (by omega)).mono ?_
  rintro _ w5 ⟨rfl, l6⟩
  rw [ck_of hsh htp, if_pos hall]
  have l36 := l35.trans l6
  obtain ⟨a0, a1⟩ := and_lo i
  generalize hA : bitI .and .i64 i 1023 = A at *
  obtain ⟨n, hn⟩ : ∃ n : Nat, A = (n : Int) := ⟨A.toNat, by omega⟩
  subst hn
  have hlen := hsc.2.2.2.1
  have hne : ¬ ((usedL d q).length : Int) = 0 := by omega
  have hmod : (n : Int).tmod ((usedL d q).length : Int) = ((n % (usedL d q).length : Nat) : Int) := by
    rw [Int.tmod_eq_emod_of_nonneg (by omega)]; exact Int.natCast_emod _ _
  have hkl : n % (usedL d q).length < (usedL d q).length := Nat.mod_lt _ hz
  have hl5 := Sl.later hU l6
  have hless := hless hkl
  generalize n % (usedL d q).length = k at *
  generalize usedL d q = L at *
  repeat' (first | (simp (disch := omega) only [push_cast, ↓reduceIte, zA, zG, zB, zH, zI, zC, zJ, zK, zL, zD, zE, zF, zM, zN, zO, zP, zQ, reduceCtorEq, not_true_eq_false, not_false_eq_true, hA, hne, hmod, decide_true]) | (first | refine iE ?_ ?_ | refine iD ?_ ?_ | refine iQ ?_ ?_ | refine iV ?_ ?_) <;> intro _ | refine And.intro (by omega) ?_ | fail)
  refine drawn_k 9 ?_
  repeat' (first | (simp (disch := omega) only [push_cast, ↓reduceIte, zA, zG, zB, zH, zI, zC, zJ, zK, zL, zD, zE, zF, zM, zN, zO, zP, zQ, reduceCtorEq, not_true_eq_false, not_false_eq_true]) | (first | refine iE ?_ ?_ | refine iD ?_ ?_ | refine iQ ?_ ?_ | refine iV ?_ ?_) <;> intro _ | refine And.intro (by omega) ?_ | fail)
  refine nB_of _ (Lit0 w5.heap.size) (stb_lit0 _ _) (fun w' hl => ?_) ?_
  · repeat' (first | (simp (disch := omega) only [push_cast, ↓reduceIte, zA, zG, zB, zH, zI, zC, zJ, zK, zL, zD, zE, zF, zM, zN, zO, zP, zQ, reduceCtorEq, not_true_eq_false, not_false_eq_true]) | (first | refine iE ?_ ?_ | refine iD ?_ ?_ | refine iQ ?_ ?_ | refine iV ?_ ?_) <;> intro _ | refine And.intro (by omega) ?_ | fail)
    exact ⟨later_alloc _ _, ⟨_, rfl⟩, own_lit w' [] _ 1 0 rfl (by unfold maxLen; omega) hl.size⟩
  repeat' (first | (simp (disch := omega) only [push_cast, ↓reduceIte, zA, zG, zB, zH, zI, zC, zJ, zK, zL, zD, zE, zF, zM, zN, zO, zP, zQ, reduceCtorEq, not_true_eq_false, not_false_eq_true]) | (first | refine iE ?_ ?_ | refine iD ?_ ?_ | refine iQ ?_ ?_ | refine iV ?_ ?_) <;> intro _ | refine And.intro (by omega) ?_ | fail)
  obtain ⟨_, hcap, hcm, _⟩ := hl5.len
  have P1 : ∀ w', Later w5 w' → StS w' (.slice uo k uc) (L.take k) := fun w' hl => by
    have := Sl.pre (Sl.later hl5 hl) (k := k) (by omega)
    rw [← List.map_take] at this
    exact this
  have P2 : ∀ w', Later w5 w' → StS w' (.slice (slAddr uo ((k : Int) + 1) (uc : Int) 1) ((L.length : Int) - ((k : Int) + 1)).toNat ((uc : Int) - ((k : Int) + 1)).toNat) (L.drop (k + 1)) := fun w' hl => by
    have := Sl.part (Sl.later hl5 hl) (l := (k : Int) + 1) (k := (L.length : Int)) (m := (uc : Int)) (by omega) (by omega) (by omega) (by omega) (by omega)
    have e : ((L.map Value.string).take (L.length : Int).toNat).drop ((k : Int) + 1).toNat = (L.drop (k + 1)).map Value.string := by
      have : ((k : Int) + 1).toNat = k + 1 := by omega
      rw [this, Int.toNat_natCast, List.take_of_length_le (by simp), List.map_drop]
    rw [e] at this
    exact this
  refine ⟨by omega, ?_⟩
  refine nR_app (fun v w' => OwnS w' w5.heap.size v (L.take k)) (stb_ownS _ _ _) (fun σ' w' hl hp => ?_) ?_
  · obtain ⟨hp50, hp53, _⟩ := hp
    obtain ⟨⟨lb, h50⟩, h50o⟩ : Lit0 w5.heap.size (σ' 50) w' := hp50
    have h53 : σ' 53 = .slice uo k uc := hp53
    rw [h50] at h50o
    have hsn := (P1 w' hl).n
    have htk : (L.take k).length = k := by rw [List.length_take]; omega
    repeat' (first | (simp (disch := omega) only [push_cast, ↓reduceIte, zA, zG, zB, zH, zI, zC, zJ, zK, zL, zD, zE, zF, zM, zN, zO, zP, zQ, reduceCtorEq, not_true_eq_false, not_false_eq_true, h50, h53]) | (first | refine iE ?_ ?_ | refine iD ?_ ?_ | refine iQ ?_ ?_ | refine iV ?_ ?_) <;> intro _ | refine And.intro (by omega) ?_ | fail)
    refine vAppend_fresh Try.underlying22 ti9 rfl (by decide) hsn (by unfold maxLen; omega) (by omega) ?_
    intro v' w'' h0 h1
    rcases Nat.eq_zero_or_pos (L.take k).length with hz | hz
    · obtain ⟨rfl, rfl⟩ := h0 hz
      have : L.take k = [] := List.length_eq_zero_iff.1 hz
      rw [this]
      exact ⟨Later.refl _, h50o⟩
    · obtain ⟨ho, hll⟩ := h1 hz
      exact ⟨hll, own_base ho hl.size⟩
  repeat' (first | (simp (disch := omega) only [push_cast, ↓reduceIte, zA, zG, zB, zH, zI, zC, zJ, zK, zL, zD, zE, zF, zM, zN, zO, zP, zQ, reduceCtorEq, not_true_eq_false, not_false_eq_true]) | (first | refine iE ?_ ?_ | refine iD ?_ ?_ | refine iQ ?_ ?_ | refine iV ?_ ?_) <;> intro _ | refine And.intro (by omega) ?_ | fail)
  rintro w6 l7 X hX Y _
  have hlen2 : (L.take k).length + (L.drop (k + 1)).length ≤ 100000000 := by rw [List.length_take, List.length_drop]; omega
  refine vAppend_ss hX (P2 w6 l7) hlen2 l7.size ?_
  intro v7 w7 ho7 hg7 _
  have l8 := l7.appended hX (Nat.le_refl _) hg7
  obtain ⟨o7, c7, rfl⟩ := OwnS.sl ho7
  have l58 := l36.trans l8
  repeat' (first | (simp (disch := omega) only [push_cast, ↓reduceIte, zA, zG, zB, zH, zI, zC, zJ, zK, zL, zD, zE, zF, zM, zN, zO, zP, zQ, reduceCtorEq, not_true_eq_false, not_false_eq_true]) | (first | refine iE ?_ ?_ | refine iD ?_ ?_ | refine iQ ?_ ?_ | refine iV ?_ ?_) <;> intro _ | refine And.intro (by omega) ?_ | refine drawn_q ?_ | fail)
  refine (alive23_c w7).mono ?_
  rintro _ w8 ⟨rfl, l9⟩
  have l59 := l58.trans l9
  have c8 := QQ w8 l59
  obtain ⟨f8, g8⟩ := FF w8 l59
  rw [hmv] at g8
  have h8 := (own_later ho7 l9)
  have hS8 : ScIs w8 (.slice o7 (L.take k ++ L.drop (k + 1)).length c7) mv (L.take k ++ L.drop (k + 1)) m := ⟨OwnS.st h8, (h1.later l59).mS, fun s hs => UZ s (by
    rcases List.mem_append.1 hs with hs | hs
    · exact List.mem_of_mem_take hs
    · exact List.mem_of_mem_drop hs), h.mZ⟩
  rw [hmv] at hS8
  repeat' (first | (simp (disch := omega) only [push_cast, ↓reduceIte, zA, zG, zB, zH, zI, zC, zJ, zK, zL, zD, zE, zF, zM, zN, zO, zP, zQ, reduceCtorEq, not_true_eq_false, not_false_eq_true, c8, g8, addr_add_eq, Nat.zero_add]) | (first | refine iE ?_ ?_ | refine iD ?_ ?_ | refine iQ ?_ ?_ | refine iV ?_ ?_) <;> intro _ | refine And.intro (by omega) ?_ | refine drawn_q ?_ | fail)
  refine (tcheck_c _ _ _ m q w8 hS8 (q1.later l59) (by omega) (by omega) (by omega) (by omega)).mono ?_
  rintro _ w9 ⟨rfl, l10⟩
  have hck8 : ckQ (L.take k ++ L.drop (k + 1)) m q = 231 := by rw [ck_of hsh htp, hless]; rfl
  rw [hck8]
  repeat' (first | (simp (disch := omega) only [push_cast, ↓reduceIte, zA, zG, zB, zH, zI, zC, zJ, zK, zL, zD, zE, zF, zM, zN, zO, zP, zQ, reduceCtorEq, not_true_eq_false, not_false_eq_true, decide_true]) | (first | refine iE ?_ ?_ | refine iD ?_ ?_ | refine iQ ?_ ?_ | refine iV ?_ ?_) <;> intro _ | refine And.intro (by omega) ?_ | refine drawn_q ?_ | fail)
  first | exact ⟨rfl, (l12.trans (l59.trans l10))⟩ | exact (l12.trans (l59.trans l10))
theorem own : ownKnob Try.prog.godebug = none := by kernel_rfl
theorem lifted (os : Os) (started : os.Started) (H : Type) (enc : TypeId × Value → H) :
    ReturnsInHanded {} Try.checked os 8 .any (Rows.typerUsedSpec.pre6 enc Try.prog Try.f8 Rows.typerUsedRow.domain false) (Rows.typerUsedSpec.post enc Try.prog Try.f8 false true false false) := by
  refine lifted_laterZ (C := Try.checked) own started (by kernel_rfl) Try.func8 hb8
    (ChangeSpec.witness6 (enc := enc) (C := Try.checked) false ⟨#[], #[.agg #[.slice none 0 0, .slice none 0 0], .agg #[.slice none 0 0, .int .i64 0, .int .i64 0, .int .i64 0, .slice none 0 0, .int .i64 0, .string ⟨#[]⟩, .string ⟨#[]⟩, .slice none 0 0, .slice none 0 0, .int .i64 0, .int .i64 0], .int .i64 0], []⟩ 20 (by kernel_rfl) (by kernel_rfl) (by kernel_rfl) (by kernel_rfl))
    (by kernel_rfl) (list_all (by kernel_rfl)) (by kernel_rfl) Try.underlying4 rfl ?_ ?_
  · intro ds h
    have h : ds.length = 3 := h
    match ds, h with
    | [_, _, _], _ => rfl
  · intro W base args ds p hval0 hz0 hA0
    have hval : ∀ (j : Nat) t v, Try.f8.params[j]? = some t → args[j]? = some v → Value.okWide Try.prog W .any base t v := hval0
    have hz : ∀ (j : Nat) t d, Try.f8.params.toList[j]? = some t → ds[j]? = some d → Sz Try.prog t d := hz0
    have hA : DataW.TrodAll enc Try.prog W 0 (fun _ => true) true Try.f8.params.toList args.toList ds p := hA0
    rw [Try.params8] at hA hval hz
    obtain ⟨v0, vs0, d0, ds0, p0, q0, hargs, rfl, rfl, h0, r0⟩ := trodAll_cons hA
    obtain ⟨v1, vs1, d1, ds1, p1, q1, rfl, rfl, rfl, h1, r1⟩ := trodAll_cons r0
    obtain ⟨v2, vs2, d2, ds2, p2, q2, rfl, rfl, rfl, h2, r2⟩ := trodAll_cons r1
    obtain ⟨rfl, rfl, rfl⟩ := trodAll_nil r2
    obtain rfl : args = #[v0, v1, v2] := by cases args; simp_all
    obtain ⟨cs0, e0, w0⟩ := openZ_agg ⟨_, Try.underlying24⟩ (fun _ => z_schema) (hval 0 24 v0 rfl rfl) h0 (hz 0 _ _ rfl rfl)
    obtain ⟨cs1, e1, w1⟩ := openZ_agg ⟨_, Try.underlying42⟩ (fun _ => z_query) (hval 1 42 v1 rfl rfl) h1 (hz 1 _ _ rfl rfl)
    obtain ⟨a2, rfl, rfl, rfl, w2⟩ := open_int Try.underlying3 (hval 2 3 v2 rfl rfl) h2
    obtain ⟨dv0, mv0, dl0, ml0, rfl, ok0⟩ := w0
    subst e0
    obtain ⟨m1, rfl, ok1⟩ := w1
    subst e1
    exact law_c dv0 mv0 dl0 ml0 m1 a2 W (ScIs.of_ok ok0) ok1 (i64_of_wf w2)
theorem over : Rows.typerUsedRow.holds Try.pinned (OpenSpec.ofChange Rows.typerUsedSpec) :=
  OpenClaim.holds_of_wide 8 Try.f8 rfl rfl rfl rfl rfl rfl rfl ⟨rfl, rfl, rfl, rfl, rfl⟩ rfl rfl rfl rfl rfl (by kernel_rfl) Try.func8 (by kernel_rfl)
    (of_decide_eq_true (by kernel_rfl)) (by unfold Func.isWrapper; first | (rw [if_pos (by decide +kernel)]; kernel_rfl) | (rw [if_neg (by decide +kernel)]; exact ⟨rfl, rfl⟩))
    (fun os started H enc _ => lifted os started H enc)
/-- The statement. -/
theorem proved : Rows.TyperUsedSaid :=
  over
end Go.Proofs.Ytnofalhkapmcnaa.typerUsed
