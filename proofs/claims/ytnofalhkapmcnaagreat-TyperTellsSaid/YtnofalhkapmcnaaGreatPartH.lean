/- A query's types, and whether it is typed: the document's. -/
import Derived.Test.YtnofalhkapmcnaaGreatPartG
set_option linter.all false
open Nat renaming reduceEqDiff → zA, reducePow → zB, reduceMul → zC, reduceAdd → zD, reduceSub → zE, reduceLeDiff → zF
open Int renaming reduceToNat → zG, reducePow → zH, reduceNeg → zI, reduceMul → zJ, reduceAdd → zK, reduceSub → zL, reduceLT → zM, reduceLE → zN, reduceEq → zO, reduceMod → zP, reduceDiv → zQ
section
set_option linter.unusedSimpArgs false
namespace Go.Proofs.YtnofalhkapmcnaaGreat
open Go.Vc Go.Key
set_option maxRecDepth 100000
def grOk (g : Int) : Bool := decide (1 ≤ g) && decide (g ≤ 1048576)
theorem dgright_c (g : Int) (w : World) : FnC Tryz.prog 98 #[.int .i64 g] w fun r w' => r = .bool (grOk g) ∧ w' = w := by
  refine enter98 _ ?_
  unfold B98
  unfold grOk
  by_cases h1 : 1 ≤ g
  · have e1 : decide (1 ≤ g) = true := decide_eq_true h1
    repeat' (first | (simp (disch := omega) only [push_cast, ↓reduceIte, zA, zG, zB, zH, zI, zC, zJ, zK, zL, zD, zE, zF, zM, zN, zO, zP, zQ, reduceCtorEq, not_true_eq_false, not_false_eq_true, e1]) | (first | refine iE ?_ ?_ | refine iD ?_ ?_ | refine iQ ?_ ?_ | refine iV ?_ ?_) <;> intro _ | refine And.intro (by omega) ?_ | refine drawn_q ?_ | fail)
    first | done | exact ⟨by simp, rfl⟩ | simp
  · have e1 : decide (1 ≤ g) = false := decide_eq_false h1
    repeat' (first | (simp (disch := omega) only [push_cast, ↓reduceIte, zA, zG, zB, zH, zI, zC, zJ, zK, zL, zD, zE, zF, zM, zN, zO, zP, zQ, reduceCtorEq, not_true_eq_false, not_false_eq_true, e1]) | (first | refine iE ?_ ?_ | refine iD ?_ ?_ | refine iQ ?_ ?_ | refine iV ?_ ?_) <;> intro _ | refine And.intro (by omega) ?_ | refine drawn_q ?_ | fail)
    first | done | exact ⟨by simp, rfl⟩ | simp
def tyNum (q : QD) : Prop := 0 ≤ q.fr ∧ q.fr < q.to ∧ q.to ≤ 1099511627776 ∧ -(q.tl.length : Int) ≤ q.od ∧ q.od ≤ (q.tl.length : Int) ∧ 0 ≤ q.lm ∧ q.lm ≤ 1000
instance (q : QD) : Decidable (tyNum q) := inferInstanceAs (Decidable (_ ∧ _))
def evOk (q : QD) : Bool := decide (q.ev = 0) || grOk q.ev
def tpOk (q : QD) : Bool := decide (q.bl.Pairwise (fun x y => x ≠ y)) && q.wh.vals.all (fun s => decide (VlOk s)) && evOk q && decide (tyNum q)
set_option maxHeartbeats 4000000 in
theorem types_c (q : QD) (w : World) (hq : q.Ok w) (hbl : q.bl.length ≤ 1000) : FnC Tryz.prog 47 #[.agg (qdC q).toArray] w fun v w' => v = .bool (tpOk q) ∧ Later w w' := by
  obtain ⟨to, tc, htv, ht1, ht2⟩ := RecS.slice hq.tv
  obtain ⟨bo, bc, hbv⟩ := Sl.slice hq.bv
  rw [List.length_map] at hbv
  have hbS := hq.bv
  rw [hbv] at hbS
  refine enter47 _ ?_
  unfold B47
  have eca : (Value.agg (qdC q).toArray).cells = (qdC q).toArray := rfl
  have l1 := later_alloc w (.cells (qdC q).toArray 32)
  have B1 := Blk.new w (qdC q).toArray 32
  repeat' (first | (simp (disch := omega) only [push_cast, ↓reduceIte, zA, zG, zB, zH, zI, zC, zJ, zK, zL, zD, zE, zF, zM, zN, zO, zP, zQ, reduceCtorEq, not_true_eq_false, not_false_eq_true, eca]) | (first | refine iE ?_ ?_ | refine iD ?_ ?_ | refine iQ ?_ ?_ | refine iV ?_ ?_) <;> intro _ | refine And.intro (by omega) ?_ | refine drawn_q ?_ | fail)
  generalize w.alloc (.cells (qdC q).toArray 32) = w1 at *
  generalize w.heap.size = kf at *
  refine vc_loop W47_0 (fun i : Nat => [(2, .bool false), (3, .int .i64 (i : Int))]) (fun i w' => i ≤ q.bl.length ∧ Later w1 w' ∧ (q.bl.take i).Pairwise (fun x y => x ≠ y)) (fun i => q.bl.length - i) 0 (by decide) ?_ ?_ ?_
  · simp (disch := omega) only [push_cast, ↓reduceIte, zA, zG, zB, zH, zI, zC, zJ, zK, zL, zD, zE, zF, zM, zN, zO, zP, zQ, reduceCtorEq, not_true_eq_false, not_false_eq_true]
  · exact ⟨Nat.zero_le _, Later.refl _, by simp⟩
  rintro i uu w2 ⟨hi, l2, hall⟩
  obtain ⟨b0, b1, b2, b3, b4, b5, b6, b7, b8, b9, b10, b11⟩ := qdAt (qdLater B1 l2)
  rw [hbv] at b4
  by_cases hik : i < q.bl.length
  · have hd2 : decide ((i : Int) < (q.bl.length : Int)) = true := decide_eq_true (by omega)
    cases bo with
    | none => have := (Sl.len hbS).2.2.2 rfl; have h0 := this.1; simp at h0; rw [h0] at hik; simp at hik
    | some la =>
    repeat' (first | (simp (disch := omega) only [push_cast, ↓reduceIte, zA, zG, zB, zH, zI, zC, zJ, zK, zL, zD, zE, zF, zM, zN, zO, zP, zQ, reduceCtorEq, not_true_eq_false, not_false_eq_true, b4, hd2, addr_add_eq, Nat.zero_add]) | (first | refine iE ?_ ?_ | refine iD ?_ ?_ | refine iQ ?_ ?_ | refine iV ?_ ?_) <;> intro _ | refine And.intro (by omega) ?_ | refine drawn_q ?_ | fail)
    refine vc_loop W47_1 (fun k : Nat => [(2, .bool false), (4, .int .i64 (k : Int))]) (fun k w' => k ≤ i ∧ Later w2 w' ∧ ∀ j (h : j < q.bl.length), j < k → q.bl[j] ≠ q.bl[i]) (fun k => i - k) 0 (by decide) ?_ ?_ ?_
    · simp (disch := omega) only [push_cast, ↓reduceIte, zA, zG, zB, zH, zI, zC, zJ, zK, zL, zD, zE, zF, zM, zN, zO, zP, zQ, reduceCtorEq, not_true_eq_false, not_false_eq_true]
    · exact ⟨Nat.zero_le _, Later.refl _, fun j _ hj => absurd hj (by omega)⟩
    rintro k u2 w3 ⟨hk, l3, hne⟩
    obtain ⟨_, _, _, _, c4, _⟩ := qdAt (qdLater B1 (l2.trans l3))
    rw [hbv] at c4
    have hS3 := Sl.later hbS (l1.trans (l2.trans l3))
    have hci := StS.atS hS3 hik
    by_cases hki : k < i
    · have hd3 : decide ((k : Int) < (i : Int)) = true := decide_eq_true (by omega)
      have hkl : k < q.bl.length := by omega
      have hck := StS.atS hS3 hkl
      by_cases he : q.bl[i] = q.bl[k]
      · have hd4 : decide (q.bl[i] = q.bl[k]) = true := decide_eq_true he
        have hf : tpOk q = false := by
          unfold tpOk
          rw [decide_eq_false (fun hp => (show q.bl[k] ≠ q.bl[i] from List.pairwise_iff_getElem.1 hp k i hkl hik hki) he.symm)]
          simp
        rw [hf]
        repeat' (first | (simp (disch := omega) only [push_cast, ↓reduceIte, zA, zG, zB, zH, zI, zC, zJ, zK, zL, zD, zE, zF, zM, zN, zO, zP, zQ, reduceCtorEq, not_true_eq_false, not_false_eq_true, c4, hci, hck, hd3, hd4, addr_add_eq, Nat.zero_add]) | (first | refine iE ?_ ?_ | refine iD ?_ ?_ | refine iQ ?_ ?_ | refine iV ?_ ?_) <;> intro _ | refine And.intro (by omega) ?_ | refine drawn_q ?_ | fail)
        first | exact fun w' hl => (l1.trans (l2.trans (l3.trans hl))) | exact fun w' hl => ⟨rfl, l1.trans (l2.trans (l3.trans hl))⟩ | trace_state
      · have hd4 : decide (q.bl[i] = q.bl[k]) = false := decide_eq_false he
        repeat' (first | (simp (disch := omega) only [push_cast, ↓reduceIte, zA, zG, zB, zH, zI, zC, zJ, zK, zL, zD, zE, zF, zM, zN, zO, zP, zQ, reduceCtorEq, not_true_eq_false, not_false_eq_true, c4, hci, hck, hd3, hd4, addr_add_eq, Nat.zero_add]) | (first | refine iE ?_ ?_ | refine iD ?_ ?_ | refine iQ ?_ ?_ | refine iV ?_ ?_) <;> intro _ | refine And.intro (by omega) ?_ | refine drawn_q ?_ | fail)
        refine fun w' hl => ⟨rfl, k + 1, by simp (disch := omega) only [push_cast, ↓reduceIte, zA, zG, zB, zH, zI, zC, zJ, zK, zL, zD, zE, zF, zM, zN, zO, zP, zQ, reduceCtorEq, not_true_eq_false, not_false_eq_true], ⟨by omega, l3.trans hl, fun j hj hjk => ?_⟩, by dsimp only; omega⟩
        by_cases hjk' : j = k
        · subst hjk'; exact fun h => he h.symm
        · exact hne j hj (by omega)
    · have hd3 : decide ((k : Int) < (i : Int)) = false := decide_eq_false (by omega)
      repeat' (first | (simp (disch := omega) only [push_cast, ↓reduceIte, zA, zG, zB, zH, zI, zC, zJ, zK, zL, zD, zE, zF, zM, zN, zO, zP, zQ, reduceCtorEq, not_true_eq_false, not_false_eq_true, hd3]) | (first | refine iE ?_ ?_ | refine iD ?_ ?_ | refine iQ ?_ ?_ | refine iV ?_ ?_) <;> intro _ | refine And.intro (by omega) ?_ | refine drawn_q ?_ | fail)
      exact ⟨rfl, i + 1, by simp (disch := omega) only [push_cast, ↓reduceIte, zA, zG, zB, zH, zI, zC, zJ, zK, zL, zD, zE, zF, zM, zN, zO, zP, zQ, reduceCtorEq, not_true_eq_false, not_false_eq_true], ⟨by omega, l2.trans l3, ok_step hik hall (fun j hj hji => hne j hj (by omega))⟩, by dsimp only; omega⟩
  have hd2 : decide ((i : Int) < (q.bl.length : Int)) = false := decide_eq_false (by omega)
  rw [List.take_of_length_le (by omega)] at hall
  have l02 := l1.trans l2
  have fw : cellsAt w2 ⟨kf, 5, none⟩ 4 = some (ftC q.wh) := by
    refine cellsAt_of 4 _ _ rfl fun i x hx => ?_
    rw [addr_add_eq]
    match i, hx with
    | 0, hx => cases hx; exact b5
    | 1, hx => cases hx; exact b6
    | 2, hx => cases hx; exact b7
    | 3, hx => cases hx; exact b8
    | n + 4, hx => exact absurd hx (by simp [ftC])
  have htp : tpOk q = (q.wh.vals.all (fun s => decide (VlOk s)) && evOk q && decide (tyNum q)) := by
    unfold tpOk; rw [decide_eq_true hall]; simp
  rw [htp]
  repeat' (first | (simp (disch := omega) only [push_cast, ↓reduceIte, zA, zG, zB, zH, zI, zC, zJ, zK, zL, zD, zE, zF, zM, zN, zO, zP, zQ, reduceCtorEq, not_true_eq_false, not_false_eq_true, b4, hd2, fw, addr_add_eq, Nat.zero_add]) | (first | refine iE ?_ ?_ | refine iD ?_ ?_ | refine iQ ?_ ?_ | refine iV ?_ ?_) <;> intro _ | refine And.intro (by omega) ?_ | refine drawn_q ?_ | fail)
  refine (values_c q.wh w2 (hq.wh.later l02)).mono ?_
  rintro _ w3 ⟨rfl, l3⟩
  obtain ⟨b0, b1, b2, b3, _, _, _, _, _, _, b10, b11⟩ := qdAt (qdLater B1 (l2.trans l3))
  rw [htv] at b0
  have l03 := l02.trans l3
  generalize q.wh.vals.all (fun s => decide (VlOk s)) = vb at *
  clear fw b4 hd2 B1 hall hik htp
  by_cases h0 : q.ev = 0
  · have e0 : decide (q.ev = 0) = true := decide_eq_true h0
    have he : evOk q = true := by unfold evOk; rw [e0]; rfl
    rw [he]
    clear he
    cases vb with
    | false =>
      repeat' (first | (simp (disch := omega) only [push_cast, ↓reduceIte, zA, zG, zB, zH, zI, zC, zJ, zK, zL, zD, zE, zF, zM, zN, zO, zP, zQ, reduceCtorEq, not_true_eq_false, not_false_eq_true, b0, b3, e0, addr_add_eq, Nat.zero_add]) | (first | refine iE ?_ ?_ | refine iD ?_ ?_ | refine iQ ?_ ?_ | refine iV ?_ ?_) <;> intro _ | refine And.intro (by omega) ?_ | refine drawn_q ?_ | fail)
      first | exact ⟨(by simp), l03⟩ | exact l03
    | true =>
    have hE : evOk q = true := by unfold evOk; rw [e0]; rfl
    by_cases hT : tyNum q
    · obtain ⟨t1, t2, t3, t4, t5, t6, t7⟩ := hT
      have e1 : decide (0 ≤ q.fr) = true := decide_eq_true t1
      have e2 : decide (q.fr < q.to) = true := decide_eq_true t2
      have e3 : decide (q.to ≤ 1099511627776) = true := decide_eq_true t3
      have e4 : decide (-(q.tl.length : Int) ≤ q.od) = true := decide_eq_true t4
      have e5 : decide (q.od ≤ (q.tl.length : Int)) = true := decide_eq_true t5
      have e6 : decide (0 ≤ q.lm) = true := decide_eq_true t6
      have e7 : decide (q.lm ≤ 1000) = true := decide_eq_true t7
      have hT : decide (tyNum q) = true := decide_eq_true ⟨t1, t2, t3, t4, t5, t6, t7⟩
      repeat' (first | (simp (disch := omega) only [push_cast, ↓reduceIte, zA, zG, zB, zH, zI, zC, zJ, zK, zL, zD, zE, zF, zM, zN, zO, zP, zQ, reduceCtorEq, not_true_eq_false, not_false_eq_true, b0, b1, b2, b3, b10, b11, e0, hE, e1, e2, e3, e4, e5, e6, e7, addr_add_eq, Nat.zero_add]) | (first | refine iE ?_ ?_ | refine iD ?_ ?_ | refine iQ ?_ ?_ | refine iV ?_ ?_) <;> intro _ | refine And.intro (by omega) ?_ | refine drawn_q ?_ | fail)
      first | exact ⟨(by rw [hT]), l03⟩ | exact l03
    · have hTd : decide (tyNum q) = false := decide_eq_false hT
      unfold tyNum at hT
      repeat' (first | (simp (disch := omega) only [push_cast, ↓reduceIte, zA, zG, zB, zH, zI, zC, zJ, zK, zL, zD, zE, zF, zM, zN, zO, zP, zQ, reduceCtorEq, not_true_eq_false, not_false_eq_true, b0, b1, b2, b3, b10, b11, e0, hE, addr_add_eq, Nat.zero_add]) | (first | refine iE ?_ ?_ | refine iD ?_ ?_ | refine iQ ?_ ?_ | refine iV ?_ ?_) <;> intro _ | refine And.intro (by omega) ?_ | refine drawn_q ?_ | fail)
      all_goals (refine ⟨congrArg Value.bool ?_, l03⟩)
      all_goals (try rw [hTd])
      all_goals (first | rfl | (apply decide_eq_false; intro hx; exact hT (by omega)))
  have e0 : decide (q.ev = 0) = false := decide_eq_false h0
  have hEq : evOk q = grOk q.ev := by unfold evOk; rw [e0]; rfl
  have qf : ∀ w', Later w3 w' → FnC Tryz.prog 98 #[.int .i64 q.ev] w' fun u w'' => u = .bool (evOk q) ∧ Later w' w'' := fun w' hl => (dgright_c q.ev w').mono fun u w'' hu => ⟨by rw [hEq]; exact hu.1, by rw [hu.2]; exact Later.refl _⟩
  repeat' (first | (simp (disch := omega) only [push_cast, ↓reduceIte, zA, zG, zB, zH, zI, zC, zJ, zK, zL, zD, zE, zF, zM, zN, zO, zP, zQ, reduceCtorEq, not_true_eq_false, not_false_eq_true, b0, b3, e0, addr_add_eq, Nat.zero_add]) | (first | refine iE ?_ ?_ | refine iD ?_ ?_ | refine iQ ?_ ?_ | refine iV ?_ ?_) <;> intro _ | refine And.intro (by omega) ?_ | refine drawn_q ?_ | fail)
  refine (dgright_c q.ev w3).mono ?_
  rintro _ w0 ⟨rfl, hw0⟩; obtain rfl := hw0.symm
  rw [← hEq]
  cases vb with
  | false =>
    repeat' (first | (simp (disch := omega) only [push_cast, ↓reduceIte, zA, zG, zB, zH, zI, zC, zJ, zK, zL, zD, zE, zF, zM, zN, zO, zP, zQ, reduceCtorEq, not_true_eq_false, not_false_eq_true, b0, b3, e0, addr_add_eq, Nat.zero_add]) | (first | refine iE ?_ ?_ | refine iD ?_ ?_ | refine iQ ?_ ?_ | refine iV ?_ ?_) <;> intro _ | refine And.intro (by omega) ?_ | refine drawn_q ?_ | fail)
    first | exact ⟨(by simp), l03⟩ | exact l03
  | true =>
  cases hE : evOk q with
  | false =>
    repeat' (first | (simp (disch := omega) only [push_cast, ↓reduceIte, zA, zG, zB, zH, zI, zC, zJ, zK, zL, zD, zE, zF, zM, zN, zO, zP, zQ, reduceCtorEq, not_true_eq_false, not_false_eq_true, b0, b3, e0, hE, addr_add_eq, Nat.zero_add]) | (first | refine iE ?_ ?_ | refine iD ?_ ?_ | refine iQ ?_ ?_ | refine iV ?_ ?_) <;> intro _ | refine And.intro (by omega) ?_ | refine drawn_q ?_ | fail)
    first | exact ⟨(by simp), l03⟩ | exact l03
  | true =>
  by_cases hT : tyNum q
  · obtain ⟨t1, t2, t3, t4, t5, t6, t7⟩ := hT
    have e1 : decide (0 ≤ q.fr) = true := decide_eq_true t1
    have e2 : decide (q.fr < q.to) = true := decide_eq_true t2
    have e3 : decide (q.to ≤ 1099511627776) = true := decide_eq_true t3
    have e4 : decide (-(q.tl.length : Int) ≤ q.od) = true := decide_eq_true t4
    have e5 : decide (q.od ≤ (q.tl.length : Int)) = true := decide_eq_true t5
    have e6 : decide (0 ≤ q.lm) = true := decide_eq_true t6
    have e7 : decide (q.lm ≤ 1000) = true := decide_eq_true t7
    have hT : decide (tyNum q) = true := decide_eq_true ⟨t1, t2, t3, t4, t5, t6, t7⟩
    repeat' (first | (simp (disch := omega) only [push_cast, ↓reduceIte, zA, zG, zB, zH, zI, zC, zJ, zK, zL, zD, zE, zF, zM, zN, zO, zP, zQ, reduceCtorEq, not_true_eq_false, not_false_eq_true, b0, b1, b2, b3, b10, b11, e0, hE, e1, e2, e3, e4, e5, e6, e7, addr_add_eq, Nat.zero_add]) | (first | refine iE ?_ ?_ | refine iD ?_ ?_ | refine iQ ?_ ?_ | refine iV ?_ ?_) <;> intro _ | refine And.intro (by omega) ?_ | refine drawn_q ?_ | fail)
    first | exact ⟨(by rw [hT]), l03⟩ | exact l03
  · have hTd : decide (tyNum q) = false := decide_eq_false hT
    unfold tyNum at hT
    repeat' (first | (simp (disch := omega) only [push_cast, ↓reduceIte, zA, zG, zB, zH, zI, zC, zJ, zK, zL, zD, zE, zF, zM, zN, zO, zP, zQ, reduceCtorEq, not_true_eq_false, not_false_eq_true, b0, b1, b2, b3, b10, b11, e0, hE, addr_add_eq, Nat.zero_add]) | (first | refine iE ?_ ?_ | refine iD ?_ ?_ | refine iQ ?_ ?_ | refine iV ?_ ?_) <;> intro _ | refine And.intro (by omega) ?_ | refine drawn_q ?_ | fail)
    all_goals (refine ⟨congrArg Value.bool ?_, l03⟩)
    all_goals (try rw [hTd])
    all_goals (first | rfl | (apply decide_eq_false; intro hx; exact hT (by omega)))
end Go.Proofs.YtnofalhkapmcnaaGreat
end
section
set_option linter.unusedSimpArgs false
namespace Go.Proofs.YtnofalhkapmcnaaGreat
open Go.Vc Go.Key
set_option maxRecDepth 100000
def ckQ (d m : List ByteArray) (q : QD) : Int := if shOk q = false then 221 else if nsOk d m q = false then 231 else if tpOk q = false then 232 else 0
theorem check_c (dv mv : Value) (d m : List ByteArray) (q : QD) (w : World) (h : ScIs w dv mv d m) (hq : q.Ok w) (hcn : q.wh.cnt ≤ 1000000) (hbl : q.bl.length ≤ 1000) : FnC Tryz.prog 17 #[scV dv mv, .agg (qdC q).toArray] w fun v w' => v = .int .i64 (ckQ d m q) ∧ Later w w' := by
  have esc : scV dv mv = .agg #[dv, mv] := rfl
  rw [esc]
  refine enter17 _ _ ?_
  unfold B17
  have eca : (Value.agg (qdC q).toArray).cells = (qdC q).toArray := rfl
  have ecb : (Value.agg #[dv, mv]).cells = #[dv, mv] := rfl
  obtain ⟨l1, s1, F⟩ := box2 w dv mv 24
  have B2 := Blk.new (w.alloc (.cells #[dv, mv] 24)) (qdC q).toArray 32
  have l2 := later_alloc (w.alloc (.cells #[dv, mv] 24)) (.cells (qdC q).toArray 32)
  rw [s1] at B2
  repeat' (first | (simp (disch := omega) only [push_cast, ↓reduceIte, zA, zG, zB, zH, zI, zC, zJ, zK, zL, zD, zE, zF, zM, zN, zO, zP, zQ, reduceCtorEq, not_true_eq_false, not_false_eq_true, eca, ecb, s1]) | (first | refine iE ?_ ?_ | refine iD ?_ ?_ | refine iQ ?_ ?_ | refine iV ?_ ?_) <;> intro _ | refine And.intro (by omega) ?_ | fail)
  have l12 := l1.trans l2
  have FF : ∀ w', Later ((w.alloc (.cells #[dv, mv] 24)).alloc (.cells (qdC q).toArray 32)) w' → cellsAt w' ⟨w.heap.size, 0, none⟩ 2 = some [dv, mv] := fun w' hl => (F w' (l2.trans hl)).2.2
  clear F
  generalize (w.alloc (.cells #[dv, mv] 24)).alloc (.cells (qdC q).toArray 32) = w1 at *
  generalize hkf : w.heap.size = kf at *
  have h1 := h.later l12
  have q1 := hq.later l12
  have QQ : ∀ w', Later w1 w' → cellsAt w' ⟨kf + 1, 0, none⟩ 12 = some (qdC q) := fun w' hl => Blk.cellsAt (l := qdC q) (qdLater B2 hl)
  have c1 := QQ w1 (Later.refl _)
  repeat' (first | (simp (disch := omega) only [push_cast, ↓reduceIte, zA, zG, zB, zH, zI, zC, zJ, zK, zL, zD, zE, zF, zM, zN, zO, zP, zQ, reduceCtorEq, not_true_eq_false, not_false_eq_true, c1]) | (first | refine iE ?_ ?_ | refine iD ?_ ?_ | refine iQ ?_ ?_ | refine iV ?_ ?_) <;> intro _ | refine And.intro (by omega) ?_ | refine drawn_q ?_ | fail)
  refine (shape_c q w1 q1).mono ?_
  rintro _ w2 ⟨rfl, l3⟩
  unfold ckQ
  cases hS : shOk q with
  | false =>
    repeat' (first | (simp (disch := omega) only [push_cast, ↓reduceIte, zA, zG, zB, zH, zI, zC, zJ, zK, zL, zD, zE, zF, zM, zN, zO, zP, zQ, reduceCtorEq, not_true_eq_false, not_false_eq_true]) | (first | refine iE ?_ ?_ | refine iD ?_ ?_ | refine iQ ?_ ?_ | refine iV ?_ ?_) <;> intro _ | refine And.intro (by omega) ?_ | refine drawn_q ?_ | fail)
    first | exact ⟨(by simp), (l12.trans l3)⟩ | exact (l12.trans l3)
  | true =>
  have c2 := QQ w2 l3
  have f2 := FF w2 l3
  repeat' (first | (simp (disch := omega) only [push_cast, ↓reduceIte, zA, zG, zB, zH, zI, zC, zJ, zK, zL, zD, zE, zF, zM, zN, zO, zP, zQ, reduceCtorEq, not_true_eq_false, not_false_eq_true, c2, f2]) | (first | refine iE ?_ ?_ | refine iD ?_ ?_ | refine iQ ?_ ?_ | refine iV ?_ ?_) <;> intro _ | refine And.intro (by omega) ?_ | refine drawn_q ?_ | fail)
  refine (names_c dv mv d m q w2 (h1.later l3) (q1.later l3) hcn hbl).mono ?_
  rintro _ w3 ⟨rfl, l4⟩
  cases hN : nsOk d m q with
  | false =>
    repeat' (first | (simp (disch := omega) only [push_cast, ↓reduceIte, zA, zG, zB, zH, zI, zC, zJ, zK, zL, zD, zE, zF, zM, zN, zO, zP, zQ, reduceCtorEq, not_true_eq_false, not_false_eq_true]) | (first | refine iE ?_ ?_ | refine iD ?_ ?_ | refine iQ ?_ ?_ | refine iV ?_ ?_) <;> intro _ | refine And.intro (by omega) ?_ | refine drawn_q ?_ | fail)
    first | exact ⟨(by simp), (l12.trans (l3.trans l4))⟩ | exact (l12.trans (l3.trans l4))
  | true =>
  have l34 := l3.trans l4
  have c3 := QQ w3 l34
  repeat' (first | (simp (disch := omega) only [push_cast, ↓reduceIte, zA, zG, zB, zH, zI, zC, zJ, zK, zL, zD, zE, zF, zM, zN, zO, zP, zQ, reduceCtorEq, not_true_eq_false, not_false_eq_true, c3]) | (first | refine iE ?_ ?_ | refine iD ?_ ?_ | refine iQ ?_ ?_ | refine iV ?_ ?_) <;> intro _ | refine And.intro (by omega) ?_ | refine drawn_q ?_ | fail)
  refine (types_c q w3 (q1.later l34) hbl).mono ?_
  rintro _ w4 ⟨rfl, l5⟩
  cases hT : tpOk q with
  | false =>
    repeat' (first | (simp (disch := omega) only [push_cast, ↓reduceIte, zA, zG, zB, zH, zI, zC, zJ, zK, zL, zD, zE, zF, zM, zN, zO, zP, zQ, reduceCtorEq, not_true_eq_false, not_false_eq_true]) | (first | refine iE ?_ ?_ | refine iD ?_ ?_ | refine iQ ?_ ?_ | refine iV ?_ ?_) <;> intro _ | refine And.intro (by omega) ?_ | refine drawn_q ?_ | fail)
    first | exact ⟨(by simp), (l12.trans (l34.trans l5))⟩ | exact (l12.trans (l34.trans l5))
  | true =>
    repeat' (first | (simp (disch := omega) only [push_cast, ↓reduceIte, zA, zG, zB, zH, zI, zC, zJ, zK, zL, zD, zE, zF, zM, zN, zO, zP, zQ, reduceCtorEq, not_true_eq_false, not_false_eq_true]) | (first | refine iE ?_ ?_ | refine iD ?_ ?_ | refine iQ ?_ ?_ | refine iV ?_ ?_) <;> intro _ | refine And.intro (by omega) ?_ | refine drawn_q ?_ | fail)
    first | exact ⟨(by simp), (l12.trans (l34.trans l5))⟩ | exact (l12.trans (l34.trans l5))
end Go.Proofs.YtnofalhkapmcnaaGreat
end
section
set_option linter.unusedSimpArgs false
namespace Go.Proofs.YtnofalhkapmcnaaGreat
open Go.Vc Go.Key
set_option maxRecDepth 100000
def f23 (d m : List ByteArray) (q : QD) : Bool := decide (F10 d) && decide (F10 m) && decide (F10 q.bl) && decide (q.tl.length ≤ 30) && decide (q.hl.length ≤ 30) && decide (q.wh.prt 300 < 300) && decide (ScOk d m) && decide (q.wh.deep ≤ 60)
set_option maxHeartbeats 2000000 in
theorem fits23_c (dv mv : Value) (d m : List ByteArray) (q : QD) (w : World) (h : ScIs w dv mv d m) (hq : q.Ok w) : FnC Tryz.prog 14 #[scV dv mv, .agg (qdC q).toArray] w fun v w' => v = .bool (f23 d m q) ∧ Later w w' := by
  have esc : scV dv mv = .agg #[dv, mv] := rfl
  obtain ⟨to, tc, htv, ht1, ht2⟩ := RecS.slice hq.tv
  obtain ⟨ho, hc, hhv, hh1, hh2⟩ := RecS.slice hq.hv
  rw [esc]
  refine enter14 _ _ ?_
  unfold B14
  have eca : (Value.agg (qdC q).toArray).cells = (qdC q).toArray := rfl
  have ecb : (Value.agg #[dv, mv]).cells = #[dv, mv] := rfl
  obtain ⟨l1, s1, F⟩ := box2 w dv mv 24
  have B2 := Blk.new (w.alloc (.cells #[dv, mv] 24)) (qdC q).toArray 32
  have l2 := later_alloc (w.alloc (.cells #[dv, mv] 24)) (.cells (qdC q).toArray 32)
  rw [s1] at B2
  repeat' (first | (simp (disch := omega) only [push_cast, ↓reduceIte, zA, zG, zB, zH, zI, zC, zJ, zK, zL, zD, zE, zF, zM, zN, zO, zP, zQ, reduceCtorEq, not_true_eq_false, not_false_eq_true, eca, ecb, s1]) | (first | refine iE ?_ ?_ | refine iD ?_ ?_ | refine iQ ?_ ?_ | refine iV ?_ ?_) <;> intro _ | refine And.intro (by omega) ?_ | fail)
  have l12 := l1.trans l2
  obtain ⟨f0, f1, f2⟩ := F _ l2
  clear F
  generalize (w.alloc (.cells #[dv, mv] 24)).alloc (.cells (qdC q).toArray 32) = w1 at *
  generalize hkf : w.heap.size = kf at *
  have h1 := h.later l12
  have q1 := hq.later l12
  have hbz : ∀ s ∈ q.bl, s.size ≤ 9223372036854775807 := fun s hs => Nat.le_trans (hq.bl s hs) (by unfold Bz; omega)
  obtain ⟨a0, a1, a2, a3, a4, b5, b6, b7, b8, a9, _⟩ := qdAt B2
  have fw : cellsAt w1 ⟨kf + 1, 5, none⟩ 4 = some (ftC q.wh) := by
    refine cellsAt_of 4 _ _ rfl fun i x hx => ?_
    rw [addr_add_eq]
    match i, hx with
    | 0, hx => cases hx; exact b5
    | 1, hx => cases hx; exact b6
    | 2, hx => cases hx; exact b7
    | 3, hx => cases hx; exact b8
    | n + 4, hx => exact absurd hx (by simp [ftC])
  rw [htv] at a0
  rw [hhv] at a9
  repeat' (first | (simp (disch := omega) only [push_cast, ↓reduceIte, zA, zG, zB, zH, zI, zC, zJ, zK, zL, zD, zE, zF, zM, zN, zO, zP, zQ, reduceCtorEq, not_true_eq_false, not_false_eq_true, f0, addr_add_eq, Nat.zero_add]) | (first | refine iE ?_ ?_ | refine iD ?_ ?_ | refine iQ ?_ ?_ | refine iV ?_ ?_) <;> intro _ | refine And.intro (by omega) ?_ | refine drawn_q ?_ | fail)
  refine (fits10_c dv d w1 h1.dS h1.dZ).mono ?_
  rintro _ w0 ⟨rfl, h0⟩; obtain rfl := h0.symm
  repeat' (first | (simp (disch := omega) only [push_cast, ↓reduceIte, zA, zG, zB, zH, zI, zC, zJ, zK, zL, zD, zE, zF, zM, zN, zO, zP, zQ, reduceCtorEq, not_true_eq_false, not_false_eq_true, f1, addr_add_eq, Nat.zero_add]) | (first | refine iE ?_ ?_ | refine iD ?_ ?_ | refine iQ ?_ ?_ | refine iV ?_ ?_) <;> intro _ | refine And.intro (by omega) ?_ | refine drawn_q ?_ | fail)
  refine (fits10_c mv m w1 h1.mS h1.mZ).mono ?_
  rintro _ w0 ⟨rfl, h0⟩; obtain rfl := h0.symm
  repeat' (first | (simp (disch := omega) only [push_cast, ↓reduceIte, zA, zG, zB, zH, zI, zC, zJ, zK, zL, zD, zE, zF, zM, zN, zO, zP, zQ, reduceCtorEq, not_true_eq_false, not_false_eq_true, a4, addr_add_eq, Nat.zero_add]) | (first | refine iE ?_ ?_ | refine iD ?_ ?_ | refine iQ ?_ ?_ | refine iV ?_ ?_) <;> intro _ | refine And.intro (by omega) ?_ | refine drawn_q ?_ | fail)
  refine (fits10_c q.bv q.bl w1 q1.bv hbz).mono ?_
  rintro _ w0 ⟨rfl, h0⟩; obtain rfl := h0.symm
  by_cases k0 : F10 d
  case neg =>
    have e0 : decide (F10 d) = false := decide_eq_false k0
    have hf : f23 d m q = false := by unfold f23; rw [e0]; simp
    rw [hf]
    repeat' (first | (simp (disch := omega) only [push_cast, ↓reduceIte, zA, zG, zB, zH, zI, zC, zJ, zK, zL, zD, zE, zF, zM, zN, zO, zP, zQ, reduceCtorEq, not_true_eq_false, not_false_eq_true, e0, addr_add_eq, Nat.zero_add]) | (first | refine iE ?_ ?_ | refine iD ?_ ?_ | refine iQ ?_ ?_ | refine iV ?_ ?_) <;> intro _ | refine And.intro (by omega) ?_ | refine drawn_q ?_ | fail)
    first | exact ⟨rfl, l12⟩ | exact l12
  have e0 : decide (F10 d) = true := decide_eq_true k0
  by_cases k1 : F10 m
  case neg =>
    have e1 : decide (F10 m) = false := decide_eq_false k1
    have hf : f23 d m q = false := by unfold f23; rw [e1]; simp
    rw [hf]
    repeat' (first | (simp (disch := omega) only [push_cast, ↓reduceIte, zA, zG, zB, zH, zI, zC, zJ, zK, zL, zD, zE, zF, zM, zN, zO, zP, zQ, reduceCtorEq, not_true_eq_false, not_false_eq_true, e0, e1, addr_add_eq, Nat.zero_add]) | (first | refine iE ?_ ?_ | refine iD ?_ ?_ | refine iQ ?_ ?_ | refine iV ?_ ?_) <;> intro _ | refine And.intro (by omega) ?_ | refine drawn_q ?_ | fail)
    first | exact ⟨rfl, l12⟩ | exact l12
  have e1 : decide (F10 m) = true := decide_eq_true k1
  by_cases k2 : F10 q.bl
  case neg =>
    have e2 : decide (F10 q.bl) = false := decide_eq_false k2
    have hf : f23 d m q = false := by unfold f23; rw [e2]; simp
    rw [hf]
    repeat' (first | (simp (disch := omega) only [push_cast, ↓reduceIte, zA, zG, zB, zH, zI, zC, zJ, zK, zL, zD, zE, zF, zM, zN, zO, zP, zQ, reduceCtorEq, not_true_eq_false, not_false_eq_true, e0, e1, e2, addr_add_eq, Nat.zero_add]) | (first | refine iE ?_ ?_ | refine iD ?_ ?_ | refine iQ ?_ ?_ | refine iV ?_ ?_) <;> intro _ | refine And.intro (by omega) ?_ | refine drawn_q ?_ | fail)
    first | exact ⟨rfl, l12⟩ | exact l12
  have e2 : decide (F10 q.bl) = true := decide_eq_true k2
  by_cases k3 : q.tl.length ≤ 30
  case neg =>
    have e3 : decide (30 < (q.tl.length : Int)) = true := decide_eq_true (by omega)
    have hf : f23 d m q = false := by unfold f23; rw [decide_eq_false k3]; simp
    rw [hf]
    repeat' (first | (simp (disch := omega) only [push_cast, ↓reduceIte, zA, zG, zB, zH, zI, zC, zJ, zK, zL, zD, zE, zF, zM, zN, zO, zP, zQ, reduceCtorEq, not_true_eq_false, not_false_eq_true, e0, e1, e2, e3, a0, a9, addr_add_eq, Nat.zero_add]) | (first | refine iE ?_ ?_ | refine iD ?_ ?_ | refine iQ ?_ ?_ | refine iV ?_ ?_) <;> intro _ | refine And.intro (by omega) ?_ | refine drawn_q ?_ | fail)
    first | exact ⟨rfl, l12⟩ | exact l12
  have e3 : decide (30 < (q.tl.length : Int)) = false := decide_eq_false (by omega)
  by_cases k4 : q.hl.length ≤ 30
  case neg =>
    have e4 : decide (30 < (q.hl.length : Int)) = true := decide_eq_true (by omega)
    have hf : f23 d m q = false := by unfold f23; rw [decide_eq_false k4]; simp
    rw [hf]
    repeat' (first | (simp (disch := omega) only [push_cast, ↓reduceIte, zA, zG, zB, zH, zI, zC, zJ, zK, zL, zD, zE, zF, zM, zN, zO, zP, zQ, reduceCtorEq, not_true_eq_false, not_false_eq_true, e0, e1, e2, e3, e4, a0, a9, addr_add_eq, Nat.zero_add]) | (first | refine iE ?_ ?_ | refine iD ?_ ?_ | refine iQ ?_ ?_ | refine iV ?_ ?_) <;> intro _ | refine And.intro (by omega) ?_ | refine drawn_q ?_ | fail)
    first | exact ⟨rfl, l12⟩ | exact l12
  have e4 : decide (30 < (q.hl.length : Int)) = false := decide_eq_false (by omega)
  repeat' (first | (simp (disch := omega) only [push_cast, ↓reduceIte, zA, zG, zB, zH, zI, zC, zJ, zK, zL, zD, zE, zF, zM, zN, zO, zP, zQ, reduceCtorEq, not_true_eq_false, not_false_eq_true, e0, e1, e2, e3, e4, a0, a9, fw, addr_add_eq, Nat.zero_add]) | (first | refine iE ?_ ?_ | refine iD ?_ ?_ | refine iQ ?_ ?_ | refine iV ?_ ?_) <;> intro _ | refine And.intro (by omega) ?_ | refine drawn_q ?_ | fail)
  refine (parts_c q.wh 300 w1 (by omega) (by omega) q1.wh).mono ?_
  rintro _ w2 ⟨rfl, l3⟩
  by_cases k5 : q.wh.prt 300 < 300
  case neg =>
    have e5 : decide (300 ≤ q.wh.prt 300) = true := decide_eq_true (by omega)
    have hf : f23 d m q = false := by unfold f23; rw [decide_eq_false k5]; simp
    rw [hf]
    repeat' (first | (simp (disch := omega) only [push_cast, ↓reduceIte, zA, zG, zB, zH, zI, zC, zJ, zK, zL, zD, zE, zF, zM, zN, zO, zP, zQ, reduceCtorEq, not_true_eq_false, not_false_eq_true, e5]) | (first | refine iE ?_ ?_ | refine iD ?_ ?_ | refine iQ ?_ ?_ | refine iV ?_ ?_) <;> intro _ | refine And.intro (by omega) ?_ | refine drawn_q ?_ | fail)
    first | exact ⟨rfl, (l12.trans l3)⟩ | exact (l12.trans l3)
  have e5 : decide (300 ≤ q.wh.prt 300) = false := decide_eq_false (by omega)
  have hcn := FT.cnt_prt q.wh 300 k5
  have g2 : cellsAt w2 ⟨kf, 0, none⟩ 2 = some [dv, mv] := cellsAt_later l3 _ f2
  have hF : ∀ l : List ByteArray, F10 l → l.length ≤ 2000000 := fun l h => by
    exact Nat.le_trans h.1 (by omega)
  repeat' (first | (simp (disch := omega) only [push_cast, ↓reduceIte, zA, zG, zB, zH, zI, zC, zJ, zK, zL, zD, zE, zF, zM, zN, zO, zP, zQ, reduceCtorEq, not_true_eq_false, not_false_eq_true, e5, g2]) | (first | refine iE ?_ ?_ | refine iD ?_ ?_ | refine iQ ?_ ?_ | refine iV ?_ ?_) <;> intro _ | refine And.intro (by omega) ?_ | refine drawn_q ?_ | fail)
  refine (dschema_c dv mv d m w2 (h1.later l3) (hF d k0) (hF m k1)).mono ?_
  rintro _ w3 ⟨rfl, l4⟩
  have l34 := l3.trans l4
  have fw3 := cellsAt_later l34 _ fw
  repeat' (first | (simp (disch := omega) only [push_cast, ↓reduceIte, zA, zG, zB, zH, zI, zC, zJ, zK, zL, zD, zE, zF, zM, zN, zO, zP, zQ, reduceCtorEq, not_true_eq_false, not_false_eq_true, fw3, addr_add_eq, Nat.zero_add]) | (first | refine iE ?_ ?_ | refine iD ?_ ?_ | refine iQ ?_ ?_ | refine iV ?_ ?_) <;> intro _ | refine And.intro (by omega) ?_ | refine drawn_q ?_ | fail)
  refine (depth_c q.wh w3 (by omega) (q1.wh.later l34)).mono ?_
  rintro _ w4 ⟨rfl, l5⟩
  have hf : f23 d m q = (decide (ScOk d m) && decide (q.wh.deep ≤ 60)) := by
    unfold f23
    rw [e0, e1, e2, decide_eq_true k3, decide_eq_true k4, decide_eq_true k5]; simp
  rw [hf]
  have e6 : decide ((q.wh.deep : Int) ≤ 60) = decide (q.wh.deep ≤ 60) := by
    by_cases hh : q.wh.deep ≤ 60
    · rw [decide_eq_true hh, decide_eq_true (by omega)]
    · rw [decide_eq_false hh, decide_eq_false (by omega)]
  by_cases k7 : ScOk d m
  · have e7 : decide (ScOk d m) = true := decide_eq_true k7
    repeat' (first | (simp (disch := omega) only [push_cast, ↓reduceIte, zA, zG, zB, zH, zI, zC, zJ, zK, zL, zD, zE, zF, zM, zN, zO, zP, zQ, reduceCtorEq, not_true_eq_false, not_false_eq_true, e7, e6]) | (first | refine iE ?_ ?_ | refine iD ?_ ?_ | refine iQ ?_ ?_ | refine iV ?_ ?_) <;> intro _ | refine And.intro (by omega) ?_ | refine drawn_q ?_ | fail)
    first | exact ⟨(by simp), (l12.trans (l34.trans l5))⟩ | exact (l12.trans (l34.trans l5))
  · have e7 : decide (ScOk d m) = false := decide_eq_false k7
    repeat' (first | (simp (disch := omega) only [push_cast, ↓reduceIte, zA, zG, zB, zH, zI, zC, zJ, zK, zL, zD, zE, zF, zM, zN, zO, zP, zQ, reduceCtorEq, not_true_eq_false, not_false_eq_true, e7, e6]) | (first | refine iE ?_ ?_ | refine iD ?_ ?_ | refine iQ ?_ ?_ | refine iV ?_ ?_) <;> intro _ | refine And.intro (by omega) ?_ | refine drawn_q ?_ | fail)
    first | exact ⟨(by simp), (l12.trans (l34.trans l5))⟩ | exact (l12.trans (l34.trans l5))
end Go.Proofs.YtnofalhkapmcnaaGreat
end
section
set_option linter.unusedSimpArgs false
namespace Go.Proofs.YtnofalhkapmcnaaGreat
open Go.Vc Go.Key
set_option maxRecDepth 100000
def usedL (d : List ByteArray) (q : QD) : List ByteArray := d.filter fun s => inL s (q.bl ++ q.wh.dims)
set_option maxHeartbeats 2000000 in
theorem used_c (dv mv : Value) (d m : List ByteArray) (q : QD) (w : World) (h : ScIs w dv mv d m) (hq : q.Ok w) (hcn : q.wh.cnt ≤ 1000000) (hbl : q.bl.length ≤ 1000) (hdl : d.length ≤ 1000) : FnC Tryz.prog 20 #[scV dv mv, .agg (qdC q).toArray] w fun v w' => OwnS w' w.heap.size v (usedL d q) ∧ Later w w' := by
  unfold scV
  obtain ⟨od, cd, hdv⟩ := Sl.slice h.dS
  rw [List.length_map] at hdv
  obtain ⟨to, tc, htv, ht1, ht2⟩ := RecS.slice hq.tv
  obtain ⟨ho, hc, hhv, hh1, hh2⟩ := RecS.slice hq.hv
  obtain ⟨bo, bc, hbv⟩ := Sl.slice hq.bv
  rw [List.length_map] at hbv
  refine enter20 _ _ ?_
  unfold B20
  have eca : (Value.agg (qdC q).toArray).cells = (qdC q).toArray := rfl
  have ecb : (Value.agg #[dv, mv]).cells = #[dv, mv] := rfl
  obtain ⟨l1, s1, F⟩ := box2 w dv mv 24
  have B2 := Blk.new (w.alloc (.cells #[dv, mv] 24)) (qdC q).toArray 32
  have l2 := later_alloc (w.alloc (.cells #[dv, mv] 24)) (.cells (qdC q).toArray 32)
  rw [s1] at B2
  repeat' (first | (simp (disch := omega) only [push_cast, ↓reduceIte, zA, zG, zB, zH, zI, zC, zJ, zK, zL, zD, zE, zF, zM, zN, zO, zP, zQ, reduceCtorEq, not_true_eq_false, not_false_eq_true, eca, ecb, s1]) | (first | refine iE ?_ ?_ | refine iD ?_ ?_ | refine iQ ?_ ?_ | refine iV ?_ ?_) <;> intro _ | refine And.intro (by omega) ?_ | fail)
  have l12 := l1.trans l2
  have FF : ∀ w', Later ((w.alloc (.cells #[dv, mv] 24)).alloc (.cells (qdC q).toArray 32)) w' → w'.cell? ⟨w.heap.size, 0, none⟩ = some dv ∧ cellsAt w' ⟨w.heap.size, 0, none⟩ 2 = some [dv, mv] := fun w' hl => ⟨(F w' (l2.trans hl)).1, (F w' (l2.trans hl)).2.2⟩
  clear F
  have hs1 : ((w.alloc (.cells #[dv, mv] 24)).alloc (.cells (qdC q).toArray 32)).heap.size = w.heap.size + 2 := by rw [World.size_alloc, s1]
  generalize (w.alloc (.cells #[dv, mv] 24)).alloc (.cells (qdC q).toArray 32) = w1 at *
  generalize hkf : w.heap.size = kf at *
  have h1 := h.later l12
  have q1 := hq.later l12
  have fw : ∀ w', Later w1 w' → cellsAt w' ⟨kf + 1, 5, none⟩ 4 = some (ftC q.wh) := fun w' hl => by
    obtain ⟨_, _, _, _, _, b5, b6, b7, b8, _⟩ := qdAt (qdLater B2 hl)
    refine cellsAt_of 4 _ _ rfl fun i x hx => ?_
    rw [addr_add_eq]
    match i, hx with
    | 0, hx => cases hx; exact b5
    | 1, hx => cases hx; exact b6
    | 2, hx => cases hx; exact b7
    | 3, hx => cases hx; exact b8
    | n + 4, hx => exact absurd hx (by simp [ftC])
  obtain ⟨a0, _, _, _, a4, _, _, _, _, a9, _⟩ := qdAt B2
  have fw1 := fw w1 (Later.refl _)
  refine drawn_k 7 ?_
  repeat' (first | (simp (disch := omega) only [push_cast, ↓reduceIte, zA, zG, zB, zH, zI, zC, zJ, zK, zL, zD, zE, zF, zM, zN, zO, zP, zQ, reduceCtorEq, not_true_eq_false, not_false_eq_true, a4, fw1, addr_add_eq, Nat.zero_add]) | (first | refine iE ?_ ?_ | refine iD ?_ ?_ | refine iQ ?_ ?_ | refine iV ?_ ?_) <;> intro _ | refine And.intro (by omega) ?_ | fail)
  refine nB_of _ (Lit0 w1.heap.size) (stb_lit0 _ _) (fun w' hl => ?_) ?_
  · repeat' (first | (simp (disch := omega) only [push_cast, ↓reduceIte, zA, zG, zB, zH, zI, zC, zJ, zK, zL, zD, zE, zF, zM, zN, zO, zP, zQ, reduceCtorEq, not_true_eq_false, not_false_eq_true]) | (first | refine iE ?_ ?_ | refine iD ?_ ?_ | refine iQ ?_ ?_ | refine iV ?_ ?_) <;> intro _ | refine And.intro (by omega) ?_ | fail)
    exact ⟨later_alloc _ _, ⟨_, rfl⟩, own_lit w' [] _ 1 0 rfl (by unfold maxLen; omega) hl.size⟩
  repeat' (first | (simp (disch := omega) only [push_cast, ↓reduceIte, zA, zG, zB, zH, zI, zC, zJ, zK, zL, zD, zE, zF, zM, zN, zO, zP, zQ, reduceCtorEq, not_true_eq_false, not_false_eq_true, a4, fw1, addr_add_eq, Nat.zero_add]) | (first | refine iE ?_ ?_ | refine iD ?_ ?_ | refine iQ ?_ ?_ | refine iV ?_ ?_) <;> intro _ | refine And.intro (by omega) ?_ | fail)
  refine nR_app (fun v w' => OwnS w' w1.heap.size v q.bl) (stb_ownS _ _ _) (fun σ' w' hl hp => ?_) ?_
  · obtain ⟨hp26, hp28, _⟩ := hp
    obtain ⟨⟨lb, h26⟩, h26o⟩ : Lit0 w1.heap.size (σ' 10) w' := hp26
    have h28 : σ' 12 = q.bv := hp28
    have hsn := StS.n (q1.later hl).bv
    rw [h26] at h26o
    repeat' (first | (simp (disch := omega) only [push_cast, ↓reduceIte, zA, zG, zB, zH, zI, zC, zJ, zK, zL, zD, zE, zF, zM, zN, zO, zP, zQ, reduceCtorEq, not_true_eq_false, not_false_eq_true, h28, h26]) | (first | refine iE ?_ ?_ | refine iD ?_ ?_ | refine iQ ?_ ?_ | refine iV ?_ ?_) <;> intro _ | refine And.intro (by omega) ?_ | fail)
    refine vAppend_fresh Tryz.underlying22 ti9 rfl (by decide) hsn (by unfold maxLen; omega) (by omega) ?_
    intro v' w'' h0 h1
    rcases Nat.eq_zero_or_pos q.bl.length with hz | hz
    · obtain ⟨rfl, rfl⟩ := h0 hz
      have : q.bl = [] := List.length_eq_zero_iff.1 hz
      rw [this]
      exact ⟨Later.refl _, h26o⟩
    · obtain ⟨ho, hll⟩ := h1 hz
      exact ⟨hll, own_base ho hl.size⟩
  repeat' (first | (simp (disch := omega) only [push_cast, ↓reduceIte, zA, zG, zB, zH, zI, zC, zJ, zK, zL, zD, zE, zF, zM, zN, zO, zP, zQ, reduceCtorEq, not_true_eq_false, not_false_eq_true, a4, fw1, addr_add_eq, Nat.zero_add]) | (first | refine iE ?_ ?_ | refine iD ?_ ?_ | refine iQ ?_ ?_ | refine iV ?_ ?_) <;> intro _ | refine And.intro (by omega) ?_ | fail)
  refine NFn.of hb53 (fun v w' => OwnS w' w1.heap.size v q.wh.dims) (stb_ownS _ _ _) (fun w' hl => (dims_c q.wh w' hcn (q1.wh.later hl)).mono fun v w'' hv => ⟨own_base hv.1 hl.size, hv.2⟩) ?_
  repeat' (first | (simp (disch := omega) only [push_cast, ↓reduceIte, zA, zG, zB, zH, zI, zC, zJ, zK, zL, zD, zE, zF, zM, zN, zO, zP, zQ, reduceCtorEq, not_true_eq_false, not_false_eq_true, a4, fw1, addr_add_eq, Nat.zero_add]) | (first | refine iE ?_ ?_ | refine iD ?_ ?_ | refine iQ ?_ ?_ | refine iV ?_ ?_) <;> intro _ | refine And.intro (by omega) ?_ | fail)
  rintro w2 l2' X2 hX2 X1 hX1 _ _
  have hdc := FT.dims_cnt q.wh
  refine vAppend_ss hX1 (OwnS.st hX2) (by omega) l2'.size ?_
  intro v3 w3 ho3 hg3 _
  have l13 := l2'.appended hX1 (Nat.le_refl _) hg3
  have hL := OwnS.st ho3
  unfold usedL
  clear ho3 hg3 hX1 hX2
  have hLl : (q.bl ++ q.wh.dims).length ≤ 100000000 := by rw [List.length_append]; omega
  generalize q.bl ++ q.wh.dims = L at *
  have h3 := h1.later l13
  repeat' (first | (simp (disch := omega) only [push_cast, ↓reduceIte, zA, zG, zB, zH, zI, zC, zJ, zK, zL, zD, zE, zF, zM, zN, zO, zP, zQ, reduceCtorEq, not_true_eq_false, not_false_eq_true]) | (first | refine iE ?_ ?_ | refine iD ?_ ?_ | refine iQ ?_ ?_ | refine iV ?_ ?_) <;> intro _ | refine And.intro (by omega) ?_ | refine drawn_q ?_ | fail)
  refine vc_loop W20_0 (fun p : Nat × Value => [(6, p.2), (7, .int .i64 (p.1 : Int))]) (fun p w' => p.1 ≤ d.length ∧ Later w3 w' ∧ OwnS w' w3.heap.size p.2 ((d.take p.1).filter fun s => inL s L)) (fun p => d.length - p.1) (0, .slice none 0 0) (by decide) ?_ ?_ ?_
  · simp (disch := omega) only [push_cast, ↓reduceIte, zA, zG, zB, zH, zI, zC, zJ, zK, zL, zD, zE, zF, zM, zN, zO, zP, zQ, reduceCtorEq, not_true_eq_false, not_false_eq_true]
  · exact ⟨Nat.zero_le _, Later.refl _, own_nil w3 w3.heap.size 9 1⟩
  rintro ⟨i, x⟩ uu w4 ⟨hi, l4, ho⟩
  dsimp only at hi ho ⊢
  have f4 := (FF w4 (l13.trans l4)).1
  rw [hdv] at f4
  by_cases hik : i < d.length
  · have hd2 : decide ((i : Int) < (d.length : Int)) = true := decide_eq_true (by omega)
    have hS := (h3.later l4).dS
    rw [hdv] at hS
    cases od with
    | none => have := (Sl.len hS).2.2.2 rfl; have h0 := this.1; simp at h0; rw [h0] at hik; simp at hik
    | some la =>
    have hc := StS.atS hS hik
    repeat' (first | (simp (disch := omega) only [push_cast, ↓reduceIte, zA, zG, zB, zH, zI, zC, zJ, zK, zL, zD, zE, zF, zM, zN, zO, zP, zQ, reduceCtorEq, not_true_eq_false, not_false_eq_true, hd2, hc, f4, addr_add_eq, Nat.zero_add]) | (first | refine iE ?_ ?_ | refine iD ?_ ?_ | refine iQ ?_ ?_ | refine iV ?_ ?_) <;> intro _ | refine And.intro (by omega) ?_ | refine drawn_q ?_ | fail)
    refine (dfind_c v3 L d[i] w4 (Sl.later hL l4)).mono ?_
    rintro _ w0 ⟨rfl, hw0⟩; obtain rfl := hw0.symm
    unfold fndV
    have hst : (d.take (i + 1)).filter (fun s => inL s L) = (d.take i).filter (fun s => inL s L) ++ (if inL d[i] L then [d[i]] else []) := by
      rw [List.take_succ_eq_append_getElem hik, List.filter_append]
      congr 1
      cases hin : inL d[i] L <;> simp [hin]
    have hln : ((d.take i).filter (fun s => inL s L)).length ≤ 1000 := by
      have h1 := List.length_filter_le (fun s => inL s L) (d.take i)
      rw [List.length_take] at h1
      omega
    cases hin : inL d[i] L with
    | true =>
      rw [hin, if_pos rfl] at hst
      repeat' (first | (simp (disch := omega) only [push_cast, ↓reduceIte, zA, zG, zB, zH, zI, zC, zJ, zK, zL, zD, zE, zF, zM, zN, zO, zP, zQ, reduceCtorEq, not_true_eq_false, not_false_eq_true, hc, f4, addr_add_eq, Nat.zero_add]) | (first | refine iE ?_ ?_ | refine iD ?_ ?_ | refine iQ ?_ ?_ | refine iV ?_ ?_) <;> intro _ | refine And.intro (by omega) ?_ | refine drawn_q ?_ | fail)
      refine vAppend_one Tryz.underlying22 ti9 rfl ho rfl (by unfold maxLen; omega) (by omega) l4.size ?_
      intro v' w' ho' hlat
      have l5 : Later w3 w' := hlat w3 l4 (Nat.le_refl _)
      have ho' : OwnS w' w3.heap.size v' ((d.take (i + 1)).filter (fun s => inL s L)) := by
        rw [hst]
        unfold OwnS
        simpa using ho'
      repeat' (first | (simp (disch := omega) only [push_cast, ↓reduceIte, zA, zG, zB, zH, zI, zC, zJ, zK, zL, zD, zE, zF, zM, zN, zO, zP, zQ, reduceCtorEq, not_true_eq_false, not_false_eq_true]) | (first | refine iE ?_ ?_ | refine iD ?_ ?_ | refine iQ ?_ ?_ | refine iV ?_ ?_) <;> intro _ | refine And.intro (by omega) ?_ | refine drawn_q ?_ | fail)
      exact ⟨rfl, (i + 1, v'), by simp (disch := omega) only [push_cast, ↓reduceIte, zA, zG, zB, zH, zI, zC, zJ, zK, zL, zD, zE, zF, zM, zN, zO, zP, zQ, reduceCtorEq, not_true_eq_false, not_false_eq_true], ⟨by dsimp only; omega, l5, ho'⟩, by dsimp only; omega⟩
    | false =>
      rw [hin, if_neg (by simp), List.append_nil] at hst
      repeat' (first | (simp (disch := omega) only [push_cast, ↓reduceIte, zA, zG, zB, zH, zI, zC, zJ, zK, zL, zD, zE, zF, zM, zN, zO, zP, zQ, reduceCtorEq, not_true_eq_false, not_false_eq_true]) | (first | refine iE ?_ ?_ | refine iD ?_ ?_ | refine iQ ?_ ?_ | refine iV ?_ ?_) <;> intro _ | refine And.intro (by omega) ?_ | refine drawn_q ?_ | fail)
      exact ⟨rfl, (i + 1, x), by simp (disch := omega) only [push_cast, ↓reduceIte, zA, zG, zB, zH, zI, zC, zJ, zK, zL, zD, zE, zF, zM, zN, zO, zP, zQ, reduceCtorEq, not_true_eq_false, not_false_eq_true], ⟨by dsimp only; omega, l4, by rw [hst]; exact ho⟩, by dsimp only; omega⟩
  have hd2 : decide ((i : Int) < (d.length : Int)) = false := decide_eq_false (by omega)
  rw [List.take_of_length_le (by omega)] at ho
  repeat' (first | (simp (disch := omega) only [push_cast, ↓reduceIte, zA, zG, zB, zH, zI, zC, zJ, zK, zL, zD, zE, zF, zM, zN, zO, zP, zQ, reduceCtorEq, not_true_eq_false, not_false_eq_true, hd2, f4, addr_add_eq, Nat.zero_add]) | (first | refine iE ?_ ?_ | refine iD ?_ ?_ | refine iQ ?_ ?_ | refine iV ?_ ?_) <;> intro _ | refine And.intro (by omega) ?_ | refine drawn_q ?_ | fail)
  have hbs : kf ≤ w3.heap.size := by rw [← hkf]; exact (l12.trans l13).size
  first | exact ⟨(own_base ho hbs), (l12.trans (l13.trans l4))⟩ | exact (l12.trans (l13.trans l4))
end Go.Proofs.YtnofalhkapmcnaaGreat
end
section
namespace Go.Proofs.YtnofalhkapmcnaaGreat
open Go.Vc
set_option maxRecDepth 100000
variable (Q : Post) (ds : List Deferred) (σ : Env) (w : World)
/-! 19 columbary/typer.Used (params #[24, 32], results #[(.tmp 4)], 13 slots) -/
def r19_0 : List VOp :=
  [⟨some 2, .box 24 (.tmp 0), 0, none⟩,
   ⟨some 3, .box 32 (.tmp 1), 0, none⟩,
   ⟨some 4, .assign (.const (.slice none 0 0)), 22, none⟩]
def r19_1 : List VOp :=
  [lda 6 32 3,
   ⟨some 7, .call ⟨.value (.func 48), #[.tmp 6], #[32]⟩, 22, none⟩,
   ⟨some 5, .alloc 22, 0, none⟩,
   ⟨none, .store 22 (.tmp 5) (.tmp 7), 0, none⟩]
def r19_2 : List VOp :=
  [fad 8 24 2 0,
   lda 9 22 8,
   ⟨some 10, .call ⟨.value (.func 50), #[.tmp 9], #[22]⟩, 22, none⟩,
   ⟨some 11, .makeFunc (Fn.func 51) #[] #[(.tmp 5)], 80, none⟩,
   ⟨some 12, .call ⟨.value (.func 49), #[.tmp 10, .tmp 11], #[22, 80]⟩, 22, none⟩,
   asg 4 12 22]
def B19 : VC :=
  (.seq (.region r19_0) (.seq (.region r19_1) (.seq (.region r19_2) .ret)))
theorem code19 : ∃ c, Tryz.f19.body = some c ∧ abs Tryz.f19.ntmps c = B19 := ⟨_, rfl, by kernel_rfl⟩
theorem hb19 : HasBody Tryz.prog 19 := hasBody_of Tryz.func19 (by kernel_rfl)
theorem res19 : Tryz.f19.results = #[(.tmp 4)] := rfl
theorem enter19 {w : World} {R : Value → World → Prop} (x0 x1 : Value) (h : vc Tryz.prog B19 (retK Tryz.prog #[(.tmp 4)] R) [] (initEnv [x0, x1] 0) w) : FnC Tryz.prog 19 #[x0, x1] w R := by
  obtain ⟨c, h1, h2⟩ := code19
  exact hb19.fn (ret_of_vc mixed Tryz.func19 h1 (Nat.le_of_ble_eq_true rfl) B19 h2 h)
@[push_cast] theorem vr19_0 : VR r19_0 [⟨some 2, .box 24 (.tmp 0), 0, none⟩, ⟨some 3, .box 32 (.tmp 1), 0, none⟩, ⟨some 4, .assign (.const (.slice none 0 0)), 22, none⟩] := vR rfl
@[push_cast] theorem vr19_1 : VR r19_1 [⟨some 6, .load 32 (.tmp 3), 32, none⟩, ⟨some 7, .call ⟨.value (.func 48), #[.tmp 6], #[32]⟩, 22, none⟩, ⟨some 5, .alloc 22, 0, none⟩, ⟨none, .store 22 (.tmp 5) (.tmp 7), 0, none⟩] := vR rfl
@[push_cast] theorem vr19_2 : VR r19_2 [⟨some 8, .fieldAddr 24 (.tmp 2) 0, 0, none⟩, ⟨some 9, .load 22 (.tmp 8), 22, none⟩, ⟨some 10, .call ⟨.value (.func 50), #[.tmp 9], #[22]⟩, 22, none⟩, ⟨some 11, .makeFunc (Fn.func 51) #[] #[(.tmp 5)], 80, none⟩, ⟨some 12, .call ⟨.value (.func 49), #[.tmp 10, .tmp 11], #[22, 80]⟩, 22, none⟩, ⟨some 4, .assign (.tmp 12), 22, none⟩] := vR rfl
/-! 48 columbary/typer.dims (params #[32], results #[(.tmp 2)], 24 slots) -/
def W48_0 : List Nat := [3, 5, 13, 14, 15, 16, 17, 18, 19, 20, 21, 22]
@[push_cast] theorem W48_0_def : W48_0 = [3, 5, 13, 14, 15, 16, 17, 18, 19, 20, 21, 22] := mk_eq rfl
def r48_0 : List VOp :=
  [⟨some 1, .box 32 (.tmp 0), 0, none⟩,
   ⟨some 2, .assign (.const (.slice none 0 0)), 22, none⟩]
def r48_1 : List VOp :=
  [fad 6 32 1 4,
   lda 7 22 6,
   ⟨some 8, .call ⟨.value (.func 50), #[.tmp 7], #[22]⟩, 22, none⟩,
   asg 3 8 22]
def r48_2 : List VOp :=
  [fad 9 32 1 5,
   lda 10 29 9,
   ⟨some 11, .call ⟨.value (.func 90), #[.tmp 10], #[29]⟩, 27, none⟩,
   ⟨some 12, .call ⟨.builtin .len, #[.tmp 11], #[27]⟩, 3, none⟩,
   ⟨some 13, .move (.const (.int .i64 0)), 3, none⟩]
def r48_3 : List VOp :=
  [⟨some 14, .binOp .lss 3 (.tmp 13) (.tmp 12) 3, 0, none⟩]
def r48_4 : List VOp :=
  [iad 15 27 11 13,
   lda 16 29 15,
   ⟨some 5, .alloc 29, 0, none⟩,
   ⟨none, .store 29 (.tmp 5) (.tmp 16), 0, none⟩]
def r48_5 : List VOp :=
  [mv 17 3 22,
   fad 18 29 5 1,
   lda 19 9 18,
   ⟨some 20, .buildSlice 22 1 #[(0, (.tmp 19))], 22, none⟩,
   ⟨some 21, .call ⟨.builtin .append, #[.tmp 17, .tmp 20], #[22, 22]⟩, 22, none⟩,
   asg 3 21 22]
def r48_6 : List VOp :=
  [⟨some 22, .binOp .add 3 (.tmp 13) (.const (.int .i64 1)) 3, 3, none⟩,
   mv 13 22 3]
def r48_7 : List VOp :=
  [mv 23 3 22,
   asg 2 23 22]
def B48 : VC :=
  (.seq (.region r48_0) (.seq (.region r48_1) (.seq (.seq (.region r48_2) (.block 0 (.loop (.seq (.region r48_3) (.seq (.cond (.tmp 14) .skip (.exit 0)) (.seq (.block 1 (.seq (.region r48_4) (.region r48_5))) (.region r48_6))))))) (.seq (.region r48_7) .ret))))
theorem code48 : ∃ c, Tryz.f48.body = some c ∧ abs Tryz.f48.ntmps c = B48 := ⟨_, rfl, by kernel_rfl⟩
theorem hb48 : HasBody Tryz.prog 48 := hasBody_of Tryz.func48 (by kernel_rfl)
theorem res48 : Tryz.f48.results = #[(.tmp 2)] := rfl
theorem enter48 {w : World} {R : Value → World → Prop} (x0 : Value) (h : vc Tryz.prog B48 (retK Tryz.prog #[(.tmp 2)] R) [] (initEnv [x0] 0) w) : FnC Tryz.prog 48 #[x0] w R := by
  obtain ⟨c, h1, h2⟩ := code48
  exact hb48.fn (ret_of_vc mixed Tryz.func48 h1 (Nat.le_of_ble_eq_true rfl) B48 h2 h)
@[push_cast] theorem vr48_0 : VR r48_0 [⟨some 1, .box 32 (.tmp 0), 0, none⟩, ⟨some 2, .assign (.const (.slice none 0 0)), 22, none⟩] := vR rfl
@[push_cast] theorem vr48_1 : VR r48_1 [⟨some 6, .fieldAddr 32 (.tmp 1) 4, 0, none⟩, ⟨some 7, .load 22 (.tmp 6), 22, none⟩, ⟨some 8, .call ⟨.value (.func 50), #[.tmp 7], #[22]⟩, 22, none⟩, ⟨some 3, .assign (.tmp 8), 22, none⟩] := vR rfl
@[push_cast] theorem vr48_2 : VR r48_2 [⟨some 9, .fieldAddr 32 (.tmp 1) 5, 0, none⟩, ⟨some 10, .load 29 (.tmp 9), 29, none⟩, ⟨some 11, .call ⟨.value (.func 90), #[.tmp 10], #[29]⟩, 27, none⟩, ⟨some 12, .call ⟨.builtin .len, #[.tmp 11], #[27]⟩, 3, none⟩, ⟨some 13, .move (.const (.int .i64 0)), 3, none⟩] := vR rfl
@[push_cast] theorem vr48_3 : VR r48_3 [⟨some 14, .binOp .lss 3 (.tmp 13) (.tmp 12) 3, 0, none⟩] := vR rfl
@[push_cast] theorem vr48_4 : VR r48_4 [⟨some 15, .indexAddr 27 (.tmp 11) (.tmp 13), 0, none⟩, ⟨some 16, .load 29 (.tmp 15), 29, none⟩, ⟨some 5, .alloc 29, 0, none⟩, ⟨none, .store 29 (.tmp 5) (.tmp 16), 0, none⟩] := vR rfl
@[push_cast] theorem vr48_5 : VR r48_5 [⟨some 17, .move (.tmp 3), 22, none⟩, ⟨some 18, .fieldAddr 29 (.tmp 5) 1, 0, none⟩, ⟨some 19, .load 9 (.tmp 18), 9, none⟩, ⟨some 20, .buildSlice 22 1 #[(0, (.tmp 19))], 22, none⟩, ⟨some 21, .call ⟨.builtin .append, #[.tmp 17, .tmp 20], #[22, 22]⟩, 22, none⟩, ⟨some 3, .assign (.tmp 21), 22, none⟩] := vR rfl
@[push_cast] theorem vr48_6 : VR r48_6 [⟨some 22, .binOp .add 3 (.tmp 13) (.const (.int .i64 1)) 3, 3, none⟩, ⟨some 13, .move (.tmp 22), 3, none⟩] := vR rfl
@[push_cast] theorem vr48_7 : VR r48_7 [⟨some 23, .move (.tmp 3), 22, none⟩, ⟨some 2, .assign (.tmp 23), 22, none⟩] := vR rfl
/-! 49 slices.DeleteFunc[[]string,string] (params #[22, 80], results #[(.tmp 4)], 42 slots) -/
def W49_0 : List Nat := [5, 6, 7, 16, 17, 18, 19, 20, 21, 22, 23, 24, 25, 26, 27, 28, 29, 30, 31, 32, 33, 34, 35]
@[push_cast] theorem W49_0_def : W49_0 = [5, 6, 7, 16, 17, 18, 19, 20, 21, 22, 23, 24, 25, 26, 27, 28, 29, 30, 31, 32, 33, 34, 35] := mk_eq rfl
def r49_0 : List VOp :=
  [⟨some 4, .assign (.const (.slice none 0 0)), 22, none⟩]
def r49_1 : List VOp :=
  [mv 8 0 22,
   mv 9 1 80,
   ⟨some 10, .call ⟨.value (.func 99), #[.tmp 8, .tmp 9], #[22, 80]⟩, 3, none⟩,
   asg 5 10 3]
def r49_2 : List VOp :=
  [mv 11 5 3,
   ⟨some 12, .binOp .eql 3 (.tmp 11) (.const (.int .i64 (-1))) 3, 4, none⟩]
def r49_3 : List VOp :=
  [mv 13 0 22,
   asg 4 13 22]
def r49_4 : List VOp :=
  [mv 14 5 3,
   ⟨some 15, .binOp .add 3 (.tmp 14) (.const (.int .i64 1)) 3, 3, none⟩,
   asg 6 15 3]
def r49_5 : List VOp :=
  [mv 16 6 3,
   mv 17 0 22,
   ⟨some 18, .call ⟨.builtin .len, #[.tmp 17], #[22]⟩, 3, none⟩,
   ⟨some 19, .binOp .lss 3 (.tmp 16) (.tmp 18) 3, 4, none⟩]
def r49_7 : List VOp :=
  [mv 22 0 22,
   mv 23 6 3,
   iad 24 22 22 23,
   lda 25 9 24,
   asg 7 25 9]
def r49_8 : List VOp :=
  [mv 26 1 80,
   mv 27 7 9,
   ⟨some 28, .call ⟨.value (.tmp 26), #[.tmp 27], #[9]⟩, 4, none⟩,
   ⟨some 29, .unOp .not 4 (.tmp 28), 4, none⟩]
def r49_9 : List VOp :=
  [mv 30 0 22,
   mv 31 5 3,
   mv 32 7 9,
   iad 33 22 30 31,
   ⟨none, .store 9 (.tmp 33) (.tmp 32), 0, none⟩]
def r49_10 : List VOp :=
  [mv 34 5 3,
   ⟨some 35, .binOp .add 3 (.tmp 34) (.const (.int .i64 1)) 3, 3, none⟩,
   asg 5 35 3]
def r49_6 : List VOp :=
  [mv 20 6 3,
   ⟨some 21, .binOp .add 3 (.tmp 20) (.const (.int .i64 1)) 3, 3, none⟩,
   asg 6 21 3]
def r49_11 : List VOp :=
  [mv 36 0 22,
   mv 37 5 3,
   ⟨some 38, .slice 22 (.tmp 36) (some (.tmp 37)) none none, 22, none⟩,
   ⟨none, .call ⟨.builtin .clear, #[.tmp 38], #[22]⟩, 0, none⟩]
def r49_12 : List VOp :=
  [mv 39 0 22,
   mv 40 5 3,
   ⟨some 41, .slice 22 (.tmp 39) none (some (.tmp 40)) none, 22, none⟩,
   asg 4 41 22]
def B49 : VC :=
  (.seq (.region r49_0) (.seq (.region r49_1) (.seq (.seq (.region r49_2) (.cond (.tmp 12) (.seq (.region r49_3) .ret) .skip)) (.seq (.seq (.region r49_4) (.block 0 (.loop (.seq (.seq (.region r49_5) (.cond (.tmp 19) .skip (.exit 0))) (.seq (.block 1 (.seq (.region r49_7) (.seq (.region r49_8) (.cond (.tmp 29) (.seq (.region r49_9) (.region r49_10)) .skip)))) (.region r49_6)))))) (.seq (.region r49_11) (.seq (.region r49_12) .ret))))))
theorem code49 : ∃ c, Tryz.f49.body = some c ∧ abs Tryz.f49.ntmps c = B49 := ⟨_, rfl, by kernel_rfl⟩
theorem hb49 : HasBody Tryz.prog 49 := hasBody_of Tryz.func49 (by kernel_rfl)
theorem res49 : Tryz.f49.results = #[(.tmp 4)] := rfl
theorem enter49 {w : World} {R : Value → World → Prop} (x0 x1 : Value) (h : vc Tryz.prog B49 (retK Tryz.prog #[(.tmp 4)] R) [] (initEnv [x0, x1] 0) w) : FnC Tryz.prog 49 #[x0, x1] w R := by
  obtain ⟨c, h1, h2⟩ := code49
  exact hb49.fn (ret_of_vc mixed Tryz.func49 h1 (Nat.le_of_ble_eq_true rfl) B49 h2 h)
@[push_cast] theorem vr49_0 : VR r49_0 [⟨some 4, .assign (.const (.slice none 0 0)), 22, none⟩] := vR rfl
@[push_cast] theorem vr49_1 : VR r49_1 [⟨some 8, .move (.tmp 0), 22, none⟩, ⟨some 9, .move (.tmp 1), 80, none⟩, ⟨some 10, .call ⟨.value (.func 99), #[.tmp 8, .tmp 9], #[22, 80]⟩, 3, none⟩, ⟨some 5, .assign (.tmp 10), 3, none⟩] := vR rfl
@[push_cast] theorem vr49_2 : VR r49_2 [⟨some 11, .move (.tmp 5), 3, none⟩, ⟨some 12, .binOp .eql 3 (.tmp 11) (.const (.int .i64 (-1))) 3, 4, none⟩] := vR rfl
@[push_cast] theorem vr49_3 : VR r49_3 [⟨some 13, .move (.tmp 0), 22, none⟩, ⟨some 4, .assign (.tmp 13), 22, none⟩] := vR rfl
@[push_cast] theorem vr49_4 : VR r49_4 [⟨some 14, .move (.tmp 5), 3, none⟩, ⟨some 15, .binOp .add 3 (.tmp 14) (.const (.int .i64 1)) 3, 3, none⟩, ⟨some 6, .assign (.tmp 15), 3, none⟩] := vR rfl
@[push_cast] theorem vr49_5 : VR r49_5 [⟨some 16, .move (.tmp 6), 3, none⟩, ⟨some 17, .move (.tmp 0), 22, none⟩, ⟨some 18, .call ⟨.builtin .len, #[.tmp 17], #[22]⟩, 3, none⟩, ⟨some 19, .binOp .lss 3 (.tmp 16) (.tmp 18) 3, 4, none⟩] := vR rfl
@[push_cast] theorem vr49_7 : VR r49_7 [⟨some 22, .move (.tmp 0), 22, none⟩, ⟨some 23, .move (.tmp 6), 3, none⟩, ⟨some 24, .indexAddr 22 (.tmp 22) (.tmp 23), 0, none⟩, ⟨some 25, .load 9 (.tmp 24), 9, none⟩, ⟨some 7, .assign (.tmp 25), 9, none⟩] := vR rfl
@[push_cast] theorem vr49_8 : VR r49_8 [⟨some 26, .move (.tmp 1), 80, none⟩, ⟨some 27, .move (.tmp 7), 9, none⟩, ⟨some 28, .call ⟨.value (.tmp 26), #[.tmp 27], #[9]⟩, 4, none⟩, ⟨some 29, .unOp .not 4 (.tmp 28), 4, none⟩] := vR rfl
@[push_cast] theorem vr49_9 : VR r49_9 [⟨some 30, .move (.tmp 0), 22, none⟩, ⟨some 31, .move (.tmp 5), 3, none⟩, ⟨some 32, .move (.tmp 7), 9, none⟩, ⟨some 33, .indexAddr 22 (.tmp 30) (.tmp 31), 0, none⟩, ⟨none, .store 9 (.tmp 33) (.tmp 32), 0, none⟩] := vR rfl
@[push_cast] theorem vr49_10 : VR r49_10 [⟨some 34, .move (.tmp 5), 3, none⟩, ⟨some 35, .binOp .add 3 (.tmp 34) (.const (.int .i64 1)) 3, 3, none⟩, ⟨some 5, .assign (.tmp 35), 3, none⟩] := vR rfl
@[push_cast] theorem vr49_6 : VR r49_6 [⟨some 20, .move (.tmp 6), 3, none⟩, ⟨some 21, .binOp .add 3 (.tmp 20) (.const (.int .i64 1)) 3, 3, none⟩, ⟨some 6, .assign (.tmp 21), 3, none⟩] := vR rfl
@[push_cast] theorem vr49_11 : VR r49_11 [⟨some 36, .move (.tmp 0), 22, none⟩, ⟨some 37, .move (.tmp 5), 3, none⟩, ⟨some 38, .slice 22 (.tmp 36) (some (.tmp 37)) none none, 22, none⟩, ⟨none, .call ⟨.builtin .clear, #[.tmp 38], #[22]⟩, 0, none⟩] := vR rfl
@[push_cast] theorem vr49_12 : VR r49_12 [⟨some 39, .move (.tmp 0), 22, none⟩, ⟨some 40, .move (.tmp 5), 3, none⟩, ⟨some 41, .slice 22 (.tmp 39) none (some (.tmp 40)) none, 22, none⟩, ⟨some 4, .assign (.tmp 41), 22, none⟩] := vR rfl
/-! 50 slices.Clone[[]string,string] (params #[22], results #[(.tmp 2)], 8 slots) -/
def r50_0 : List VOp :=
  [⟨some 2, .assign (.const (.slice none 0 0)), 22, none⟩]
def r50_1 : List VOp :=
  [mv 3 0 22,
   ⟨some 4, .binOp .eql 22 (.tmp 3) (.const (.slice none 0 0)) 22, 4, none⟩]
def r50_2 : List VOp :=
  [⟨some 2, .assign (.const (.slice none 0 0)), 22, none⟩]
def r50_3 : List VOp :=
  [⟨some 5, .buildSlice 22 0 #[], 22, none⟩,
   mv 6 0 22,
   ⟨some 7, .call ⟨.builtin .append, #[.tmp 5, .tmp 6], #[22, 22]⟩, 22, none⟩,
   asg 2 7 22]
def B50 : VC :=
  (.seq (.region r50_0) (.seq (.seq (.region r50_1) (.cond (.tmp 4) (.seq (.region r50_2) .ret) .skip)) (.seq (.region r50_3) .ret)))
theorem code50 : ∃ c, Tryz.f50.body = some c ∧ abs Tryz.f50.ntmps c = B50 := ⟨_, rfl, by kernel_rfl⟩
theorem hb50 : HasBody Tryz.prog 50 := hasBody_of Tryz.func50 (by kernel_rfl)
theorem res50 : Tryz.f50.results = #[(.tmp 2)] := rfl
theorem enter50 {w : World} {R : Value → World → Prop} (x0 : Value) (h : vc Tryz.prog B50 (retK Tryz.prog #[(.tmp 2)] R) [] (initEnv [x0] 0) w) : FnC Tryz.prog 50 #[x0] w R := by
  obtain ⟨c, h1, h2⟩ := code50
  exact hb50.fn (ret_of_vc mixed Tryz.func50 h1 (Nat.le_of_ble_eq_true rfl) B50 h2 h)
@[push_cast] theorem vr50_0 : VR r50_0 [⟨some 2, .assign (.const (.slice none 0 0)), 22, none⟩] := vR rfl
@[push_cast] theorem vr50_1 : VR r50_1 [⟨some 3, .move (.tmp 0), 22, none⟩, ⟨some 4, .binOp .eql 22 (.tmp 3) (.const (.slice none 0 0)) 22, 4, none⟩] := vR rfl
@[push_cast] theorem vr50_2 : VR r50_2 [⟨some 2, .assign (.const (.slice none 0 0)), 22, none⟩] := vR rfl
@[push_cast] theorem vr50_3 : VR r50_3 [⟨some 5, .buildSlice 22 0 #[], 22, none⟩, ⟨some 6, .move (.tmp 0), 22, none⟩, ⟨some 7, .call ⟨.builtin .append, #[.tmp 5, .tmp 6], #[22, 22]⟩, 22, none⟩, ⟨some 2, .assign (.tmp 7), 22, none⟩] := vR rfl
/-! 51 columbary/typer.Used$1 (params #[9], results #[(.tmp 3)], 8 slots) -/
def r51_0 : List VOp :=
  [⟨some 3, .assign (.const (.bool false)), 4, none⟩]
def r51_1 : List VOp :=
  [lda 4 22 1,
   mv 5 0 9,
   ⟨some 6, .call ⟨.value (.func 52), #[.tmp 4, .tmp 5], #[22, 9]⟩, 4, none⟩,
   ⟨some 7, .unOp .not 4 (.tmp 6), 4, none⟩,
   asg 3 7 4]
def B51 : VC :=
  (.seq (.region r51_0) (.seq (.region r51_1) .ret))
theorem code51 : ∃ c, Tryz.f51.body = some c ∧ abs Tryz.f51.ntmps c = B51 := ⟨_, rfl, by kernel_rfl⟩
theorem hb51 : HasBody Tryz.prog 51 := hasBody_of Tryz.func51 (by kernel_rfl)
theorem res51 : Tryz.f51.results = #[(.tmp 3)] := rfl
theorem enter51 {w : World} {R : Value → World → Prop} (x0 x1 : Value) (h : vc Tryz.prog B51 (retK Tryz.prog #[(.tmp 3)] R) [] (initEnv [x0, x1] 0) w) : FnC Tryz.prog 51 #[x0, x1] w R := by
  obtain ⟨c, h1, h2⟩ := code51
  exact hb51.fn (ret_of_vc mixed Tryz.func51 h1 (Nat.le_of_ble_eq_true rfl) B51 h2 h)
@[push_cast] theorem vr51_0 : VR r51_0 [⟨some 3, .assign (.const (.bool false)), 4, none⟩] := vR rfl
@[push_cast] theorem vr51_1 : VR r51_1 [⟨some 4, .load 22 (.tmp 1), 22, none⟩, ⟨some 5, .move (.tmp 0), 9, none⟩, ⟨some 6, .call ⟨.value (.func 52), #[.tmp 4, .tmp 5], #[22, 9]⟩, 4, none⟩, ⟨some 7, .unOp .not 4 (.tmp 6), 4, none⟩, ⟨some 3, .assign (.tmp 7), 4, none⟩] := vR rfl
/-! 52 slices.Contains[[]string,string] (params #[22, 9], results #[(.tmp 4)], 9 slots) -/
def r52_0 : List VOp :=
  [⟨some 4, .assign (.const (.bool false)), 4, none⟩]
def r52_1 : List VOp :=
  [mv 5 0 22,
   mv 6 1 9,
   ⟨some 7, .call ⟨.value (.func 100), #[.tmp 5, .tmp 6], #[22, 9]⟩, 3, none⟩,
   ⟨some 8, .binOp .geq 3 (.tmp 7) (.const (.int .i64 0)) 3, 4, none⟩,
   asg 4 8 4]
def B52 : VC :=
  (.seq (.region r52_0) (.seq (.region r52_1) .ret))
theorem code52 : ∃ c, Tryz.f52.body = some c ∧ abs Tryz.f52.ntmps c = B52 := ⟨_, rfl, by kernel_rfl⟩
theorem hb52 : HasBody Tryz.prog 52 := hasBody_of Tryz.func52 (by kernel_rfl)
theorem res52 : Tryz.f52.results = #[(.tmp 4)] := rfl
theorem enter52 {w : World} {R : Value → World → Prop} (x0 x1 : Value) (h : vc Tryz.prog B52 (retK Tryz.prog #[(.tmp 4)] R) [] (initEnv [x0, x1] 0) w) : FnC Tryz.prog 52 #[x0, x1] w R := by
  obtain ⟨c, h1, h2⟩ := code52
  exact hb52.fn (ret_of_vc mixed Tryz.func52 h1 (Nat.le_of_ble_eq_true rfl) B52 h2 h)
@[push_cast] theorem vr52_0 : VR r52_0 [⟨some 4, .assign (.const (.bool false)), 4, none⟩] := vR rfl
@[push_cast] theorem vr52_1 : VR r52_1 [⟨some 5, .move (.tmp 0), 22, none⟩, ⟨some 6, .move (.tmp 1), 9, none⟩, ⟨some 7, .call ⟨.value (.func 100), #[.tmp 5, .tmp 6], #[22, 9]⟩, 3, none⟩, ⟨some 8, .binOp .geq 3 (.tmp 7) (.const (.int .i64 0)) 3, 4, none⟩, ⟨some 4, .assign (.tmp 8), 4, none⟩] := vR rfl
/-! 54 columbary/bucket.Floor (params #[3, 3], results #[(.tmp 4), (.tmp 5)], 19 slots) -/
def r54_0 : List VOp :=
  [⟨some 4, .assign (.const (.int .i64 0)), 3, none⟩,
   ⟨some 5, .assign (.const (.int .i64 0)), 37, none⟩]
def r54_1 : List VOp :=
  [mv 6 1 3,
   ⟨some 7, .call ⟨.value (.func 93), #[.tmp 6], #[3]⟩, 4, none⟩,
   ⟨some 8, .unOp .not 4 (.tmp 7), 4, none⟩,
   mv 9 8 4,
   ⟨some 10, .move (.tmp 0), 3, some (9, false)⟩,
   ⟨some 11, .call ⟨.value (.func 101), #[.tmp 10], #[3]⟩, 4, some (9, false)⟩,
   ⟨some 12, .unOp .not 4 (.tmp 11), 4, some (9, false)⟩,
   ⟨some 13, .pick (.tmp 9) (.const (.bool true)) (.tmp 12), 4, none⟩]
def r54_2 : List VOp :=
  [⟨some 4, .assign (.const (.int .i64 0)), 3, none⟩,
   ⟨some 5, .assign (.const (.int .i64 111)), 37, none⟩]
def r54_3 : List VOp :=
  [mv 14 0 3,
   mv 15 0 3,
   mv 16 1 3,
   ⟨some 17, .call ⟨.value (.func 102), #[.tmp 15, .tmp 16], #[3, 3]⟩, 3, none⟩,
   ⟨some 18, .binOp .sub 3 (.tmp 14) (.tmp 17) 3, 3, none⟩,
   asg 4 18 3,
   ⟨some 5, .assign (.const (.int .i64 0)), 37, none⟩]
def B54 : VC :=
  (.seq (.region r54_0) (.seq (.seq (.region r54_1) (.cond (.tmp 13) (.seq (.region r54_2) .ret) .skip)) (.seq (.region r54_3) .ret)))
theorem code54 : ∃ c, Tryz.f54.body = some c ∧ abs Tryz.f54.ntmps c = B54 := ⟨_, rfl, by kernel_rfl⟩
theorem hb54 : HasBody Tryz.prog 54 := hasBody_of Tryz.func54 (by kernel_rfl)
theorem res54 : Tryz.f54.results = #[(.tmp 4), (.tmp 5)] := rfl
theorem enter54 {w : World} {R : Value → World → Prop} (x0 x1 : Value) (h : vc Tryz.prog B54 (retK Tryz.prog #[(.tmp 4), (.tmp 5)] R) [] (initEnv [x0, x1] 0) w) : FnC Tryz.prog 54 #[x0, x1] w R := by
  obtain ⟨c, h1, h2⟩ := code54
  exact hb54.fn (ret_of_vc mixed Tryz.func54 h1 (Nat.le_of_ble_eq_true rfl) B54 h2 h)
@[push_cast] theorem vr54_0 : VR r54_0 [⟨some 4, .assign (.const (.int .i64 0)), 3, none⟩, ⟨some 5, .assign (.const (.int .i64 0)), 37, none⟩] := vR rfl
@[push_cast] theorem vr54_1 : VR r54_1 [⟨some 6, .move (.tmp 1), 3, none⟩, ⟨some 7, .call ⟨.value (.func 93), #[.tmp 6], #[3]⟩, 4, none⟩, ⟨some 8, .unOp .not 4 (.tmp 7), 4, none⟩, ⟨some 9, .move (.tmp 8), 4, none⟩, ⟨some 10, .move (.tmp 0), 3, some (9, false)⟩, ⟨some 11, .call ⟨.value (.func 101), #[.tmp 10], #[3]⟩, 4, some (9, false)⟩, ⟨some 12, .unOp .not 4 (.tmp 11), 4, some (9, false)⟩, ⟨some 13, .pick (.tmp 9) (.const (.bool true)) (.tmp 12), 4, none⟩] := vR rfl
@[push_cast] theorem vr54_2 : VR r54_2 [⟨some 4, .assign (.const (.int .i64 0)), 3, none⟩, ⟨some 5, .assign (.const (.int .i64 111)), 37, none⟩] := vR rfl
@[push_cast] theorem vr54_3 : VR r54_3 [⟨some 14, .move (.tmp 0), 3, none⟩, ⟨some 15, .move (.tmp 0), 3, none⟩, ⟨some 16, .move (.tmp 1), 3, none⟩, ⟨some 17, .call ⟨.value (.func 102), #[.tmp 15, .tmp 16], #[3, 3]⟩, 3, none⟩, ⟨some 18, .binOp .sub 3 (.tmp 14) (.tmp 17) 3, 3, none⟩, ⟨some 4, .assign (.tmp 18), 3, none⟩, ⟨some 5, .assign (.const (.int .i64 0)), 37, none⟩] := vR rfl
/-! 85 slices.ContainsFunc[[]string,string] (params #[22, 80], results #[(.tmp 4)], 9 slots) -/
def r85_0 : List VOp :=
  [⟨some 4, .assign (.const (.bool false)), 4, none⟩]
def r85_1 : List VOp :=
  [mv 5 0 22,
   mv 6 1 80,
   ⟨some 7, .call ⟨.value (.func 99), #[.tmp 5, .tmp 6], #[22, 80]⟩, 3, none⟩,
   ⟨some 8, .binOp .geq 3 (.tmp 7) (.const (.int .i64 0)) 3, 4, none⟩,
   asg 4 8 4]
def B85 : VC :=
  (.seq (.region r85_0) (.seq (.region r85_1) .ret))
theorem code85 : ∃ c, Tryz.f85.body = some c ∧ abs Tryz.f85.ntmps c = B85 := ⟨_, rfl, by kernel_rfl⟩
theorem hb85 : HasBody Tryz.prog 85 := hasBody_of Tryz.func85 (by kernel_rfl)
theorem res85 : Tryz.f85.results = #[(.tmp 4)] := rfl
theorem enter85 {w : World} {R : Value → World → Prop} (x0 x1 : Value) (h : vc Tryz.prog B85 (retK Tryz.prog #[(.tmp 4)] R) [] (initEnv [x0, x1] 0) w) : FnC Tryz.prog 85 #[x0, x1] w R := by
  obtain ⟨c, h1, h2⟩ := code85
  exact hb85.fn (ret_of_vc mixed Tryz.func85 h1 (Nat.le_of_ble_eq_true rfl) B85 h2 h)
@[push_cast] theorem vr85_0 : VR r85_0 [⟨some 4, .assign (.const (.bool false)), 4, none⟩] := vR rfl
@[push_cast] theorem vr85_1 : VR r85_1 [⟨some 5, .move (.tmp 0), 22, none⟩, ⟨some 6, .move (.tmp 1), 80, none⟩, ⟨some 7, .call ⟨.value (.func 99), #[.tmp 5, .tmp 6], #[22, 80]⟩, 3, none⟩, ⟨some 8, .binOp .geq 3 (.tmp 7) (.const (.int .i64 0)) 3, 4, none⟩, ⟨some 4, .assign (.tmp 8), 4, none⟩] := vR rfl
/-! 90 columbary/typer.conditions (params #[29], results #[(.tmp 2)], 10 slots) -/
def r90_0 : List VOp :=
  [⟨some 1, .box 29 (.tmp 0), 0, none⟩,
   ⟨some 2, .assign (.const (.slice none 0 0)), 27, none⟩]
def r90_1 : List VOp :=
  [⟨some 3, .alloc 27, 0, none⟩]
def r90_2 : List VOp :=
  [⟨some 4, .alloc 136, 0, none⟩]
def r90_3 : List VOp :=
  [⟨some 5, .makeFunc (Fn.func 125) #[] #[(.tmp 3), (.tmp 4)], 136, none⟩,
   ⟨none, .store 136 (.tmp 4) (.tmp 5), 0, none⟩]
def r90_4 : List VOp :=
  [lda 6 136 4,
   lda 7 29 1,
   ⟨some 8, .call ⟨.value (.tmp 6), #[.tmp 7], #[29]⟩, 0, none⟩]
def r90_5 : List VOp :=
  [lda 9 27 3,
   asg 2 9 27]
def B90 : VC :=
  (.seq (.region r90_0) (.seq (.region r90_1) (.seq (.region r90_2) (.seq (.region r90_3) (.seq (.region r90_4) (.seq (.region r90_5) .ret))))))
theorem code90 : ∃ c, Tryz.f90.body = some c ∧ abs Tryz.f90.ntmps c = B90 := ⟨_, rfl, by kernel_rfl⟩
theorem hb90 : HasBody Tryz.prog 90 := hasBody_of Tryz.func90 (by kernel_rfl)
theorem res90 : Tryz.f90.results = #[(.tmp 2)] := rfl
theorem enter90 {w : World} {R : Value → World → Prop} (x0 : Value) (h : vc Tryz.prog B90 (retK Tryz.prog #[(.tmp 2)] R) [] (initEnv [x0] 0) w) : FnC Tryz.prog 90 #[x0] w R := by
  obtain ⟨c, h1, h2⟩ := code90
  exact hb90.fn (ret_of_vc mixed Tryz.func90 h1 (Nat.le_of_ble_eq_true rfl) B90 h2 h)
@[push_cast] theorem vr90_0 : VR r90_0 [⟨some 1, .box 29 (.tmp 0), 0, none⟩, ⟨some 2, .assign (.const (.slice none 0 0)), 27, none⟩] := vR rfl
@[push_cast] theorem vr90_1 : VR r90_1 [⟨some 3, .alloc 27, 0, none⟩] := vR rfl
@[push_cast] theorem vr90_2 : VR r90_2 [⟨some 4, .alloc 136, 0, none⟩] := vR rfl
@[push_cast] theorem vr90_3 : VR r90_3 [⟨some 5, .makeFunc (Fn.func 125) #[] #[(.tmp 3), (.tmp 4)], 136, none⟩, ⟨none, .store 136 (.tmp 4) (.tmp 5), 0, none⟩] := vR rfl
@[push_cast] theorem vr90_4 : VR r90_4 [⟨some 6, .load 136 (.tmp 4), 136, none⟩, ⟨some 7, .load 29 (.tmp 1), 29, none⟩, ⟨some 8, .call ⟨.value (.tmp 6), #[.tmp 7], #[29]⟩, 0, none⟩] := vR rfl
@[push_cast] theorem vr90_5 : VR r90_5 [⟨some 9, .load 27 (.tmp 3), 27, none⟩, ⟨some 2, .assign (.tmp 9), 27, none⟩] := vR rfl
/-! 93 columbary/bucket.Right (params #[3], results #[(.tmp 2)], 9 slots) -/
def r93_0 : List VOp :=
  [⟨some 2, .assign (.const (.bool false)), 4, none⟩]
def r93_1 : List VOp :=
  [mv 3 0 3,
   ⟨some 4, .binOp .geq 3 (.tmp 3) (.const (.int .i64 1)) 3, 4, none⟩,
   mv 5 4 4,
   ⟨some 6, .move (.tmp 0), 3, some (5, true)⟩,
   ⟨some 7, .binOp .leq 3 (.tmp 6) (.const (.int .i64 1048576)) 3, 4, some (5, true)⟩,
   ⟨some 8, .pick (.tmp 5) (.tmp 7) (.const (.bool false)), 4, none⟩,
   asg 2 8 4]
def B93 : VC :=
  (.seq (.region r93_0) (.seq (.region r93_1) .ret))
theorem code93 : ∃ c, Tryz.f93.body = some c ∧ abs Tryz.f93.ntmps c = B93 := ⟨_, rfl, by kernel_rfl⟩
theorem hb93 : HasBody Tryz.prog 93 := hasBody_of Tryz.func93 (by kernel_rfl)
theorem res93 : Tryz.f93.results = #[(.tmp 2)] := rfl
theorem enter93 {w : World} {R : Value → World → Prop} (x0 : Value) (h : vc Tryz.prog B93 (retK Tryz.prog #[(.tmp 2)] R) [] (initEnv [x0] 0) w) : FnC Tryz.prog 93 #[x0] w R := by
  obtain ⟨c, h1, h2⟩ := code93
  exact hb93.fn (ret_of_vc mixed Tryz.func93 h1 (Nat.le_of_ble_eq_true rfl) B93 h2 h)
@[push_cast] theorem vr93_0 : VR r93_0 [⟨some 2, .assign (.const (.bool false)), 4, none⟩] := vR rfl
@[push_cast] theorem vr93_1 : VR r93_1 [⟨some 3, .move (.tmp 0), 3, none⟩, ⟨some 4, .binOp .geq 3 (.tmp 3) (.const (.int .i64 1)) 3, 4, none⟩, ⟨some 5, .move (.tmp 4), 4, none⟩, ⟨some 6, .move (.tmp 0), 3, some (5, true)⟩, ⟨some 7, .binOp .leq 3 (.tmp 6) (.const (.int .i64 1048576)) 3, 4, some (5, true)⟩, ⟨some 8, .pick (.tmp 5) (.tmp 7) (.const (.bool false)), 4, none⟩, ⟨some 2, .assign (.tmp 8), 4, none⟩] := vR rfl
/-! 99 slices.IndexFunc[[]string,string] (params #[22, 80], results #[(.tmp 4)], 19 slots) -/
def W99_0 : List Nat := [4, 5, 8, 9, 10, 11, 12, 13, 14, 15, 16, 17, 18]
@[push_cast] theorem W99_0_def : W99_0 = [4, 5, 8, 9, 10, 11, 12, 13, 14, 15, 16, 17, 18] := mk_eq rfl
def r99_0 : List VOp :=
  [⟨some 4, .assign (.const (.int .i64 0)), 3, none⟩]
def r99_1 : List VOp :=
  [mv 6 0 22,
   ⟨some 7, .call ⟨.builtin .len, #[.tmp 6], #[22]⟩, 3, none⟩,
   ⟨some 8, .move (.const (.int .i64 0)), 3, none⟩]
def r99_2 : List VOp :=
  [⟨some 9, .binOp .lss 3 (.tmp 8) (.tmp 7) 3, 0, none⟩]
def r99_3 : List VOp :=
  [mv 10 8 3,
   asg 5 10 3]
def r99_4 : List VOp :=
  [mv 11 1 80,
   mv 12 0 22,
   mv 13 5 3,
   iad 14 22 12 13,
   lda 15 9 14,
   ⟨some 16, .call ⟨.value (.tmp 11), #[.tmp 15], #[9]⟩, 4, none⟩]
def r99_5 : List VOp :=
  [mv 17 5 3,
   asg 4 17 3]
def r99_6 : List VOp :=
  [⟨some 18, .binOp .add 3 (.tmp 8) (.const (.int .i64 1)) 3, 3, none⟩,
   mv 8 18 3]
def r99_7 : List VOp :=
  [⟨some 4, .assign (.const (.int .i64 (-1))), 3, none⟩]
def B99 : VC :=
  (.seq (.region r99_0) (.seq (.seq (.region r99_1) (.block 0 (.loop (.seq (.region r99_2) (.seq (.cond (.tmp 9) .skip (.exit 0)) (.seq (.block 1 (.seq (.region r99_3) (.seq (.region r99_4) (.cond (.tmp 16) (.seq (.region r99_5) .ret) .skip)))) (.region r99_6))))))) (.seq (.region r99_7) .ret)))
theorem code99 : ∃ c, Tryz.f99.body = some c ∧ abs Tryz.f99.ntmps c = B99 := ⟨_, rfl, by kernel_rfl⟩
theorem hb99 : HasBody Tryz.prog 99 := hasBody_of Tryz.func99 (by kernel_rfl)
theorem res99 : Tryz.f99.results = #[(.tmp 4)] := rfl
theorem enter99 {w : World} {R : Value → World → Prop} (x0 x1 : Value) (h : vc Tryz.prog B99 (retK Tryz.prog #[(.tmp 4)] R) [] (initEnv [x0, x1] 0) w) : FnC Tryz.prog 99 #[x0, x1] w R := by
  obtain ⟨c, h1, h2⟩ := code99
  exact hb99.fn (ret_of_vc mixed Tryz.func99 h1 (Nat.le_of_ble_eq_true rfl) B99 h2 h)
@[push_cast] theorem vr99_0 : VR r99_0 [⟨some 4, .assign (.const (.int .i64 0)), 3, none⟩] := vR rfl
@[push_cast] theorem vr99_1 : VR r99_1 [⟨some 6, .move (.tmp 0), 22, none⟩, ⟨some 7, .call ⟨.builtin .len, #[.tmp 6], #[22]⟩, 3, none⟩, ⟨some 8, .move (.const (.int .i64 0)), 3, none⟩] := vR rfl
@[push_cast] theorem vr99_2 : VR r99_2 [⟨some 9, .binOp .lss 3 (.tmp 8) (.tmp 7) 3, 0, none⟩] := vR rfl
@[push_cast] theorem vr99_3 : VR r99_3 [⟨some 10, .move (.tmp 8), 3, none⟩, ⟨some 5, .assign (.tmp 10), 3, none⟩] := vR rfl
@[push_cast] theorem vr99_4 : VR r99_4 [⟨some 11, .move (.tmp 1), 80, none⟩, ⟨some 12, .move (.tmp 0), 22, none⟩, ⟨some 13, .move (.tmp 5), 3, none⟩, ⟨some 14, .indexAddr 22 (.tmp 12) (.tmp 13), 0, none⟩, ⟨some 15, .load 9 (.tmp 14), 9, none⟩, ⟨some 16, .call ⟨.value (.tmp 11), #[.tmp 15], #[9]⟩, 4, none⟩] := vR rfl
@[push_cast] theorem vr99_5 : VR r99_5 [⟨some 17, .move (.tmp 5), 3, none⟩, ⟨some 4, .assign (.tmp 17), 3, none⟩] := vR rfl
@[push_cast] theorem vr99_6 : VR r99_6 [⟨some 18, .binOp .add 3 (.tmp 8) (.const (.int .i64 1)) 3, 3, none⟩, ⟨some 8, .move (.tmp 18), 3, none⟩] := vR rfl
@[push_cast] theorem vr99_7 : VR r99_7 [⟨some 4, .assign (.const (.int .i64 (-1))), 3, none⟩] := vR rfl
/-! 100 slices.Index[[]string,string] (params #[22, 9], results #[(.tmp 4)], 19 slots) -/
def W100_0 : List Nat := [4, 5, 8, 9, 10, 11, 12, 13, 14, 15, 16, 17, 18]
@[push_cast] theorem W100_0_def : W100_0 = [4, 5, 8, 9, 10, 11, 12, 13, 14, 15, 16, 17, 18] := mk_eq rfl
def r100_0 : List VOp :=
  [⟨some 4, .assign (.const (.int .i64 0)), 3, none⟩]
def r100_1 : List VOp :=
  [mv 6 0 22,
   ⟨some 7, .call ⟨.builtin .len, #[.tmp 6], #[22]⟩, 3, none⟩,
   ⟨some 8, .move (.const (.int .i64 0)), 3, none⟩]
def r100_2 : List VOp :=
  [⟨some 9, .binOp .lss 3 (.tmp 8) (.tmp 7) 3, 0, none⟩]
def r100_3 : List VOp :=
  [mv 10 8 3,
   asg 5 10 3]
def r100_4 : List VOp :=
  [mv 11 1 9,
   mv 12 0 22,
   mv 13 5 3,
   iad 14 22 12 13,
   lda 15 9 14,
   ⟨some 16, .binOp .eql 9 (.tmp 11) (.tmp 15) 9, 4, none⟩]
def r100_5 : List VOp :=
  [mv 17 5 3,
   asg 4 17 3]
def r100_6 : List VOp :=
  [⟨some 18, .binOp .add 3 (.tmp 8) (.const (.int .i64 1)) 3, 3, none⟩,
   mv 8 18 3]
def r100_7 : List VOp :=
  [⟨some 4, .assign (.const (.int .i64 (-1))), 3, none⟩]
def B100 : VC :=
  (.seq (.region r100_0) (.seq (.seq (.region r100_1) (.block 0 (.loop (.seq (.region r100_2) (.seq (.cond (.tmp 9) .skip (.exit 0)) (.seq (.block 1 (.seq (.region r100_3) (.seq (.region r100_4) (.cond (.tmp 16) (.seq (.region r100_5) .ret) .skip)))) (.region r100_6))))))) (.seq (.region r100_7) .ret)))
theorem code100 : ∃ c, Tryz.f100.body = some c ∧ abs Tryz.f100.ntmps c = B100 := ⟨_, rfl, by kernel_rfl⟩
theorem hb100 : HasBody Tryz.prog 100 := hasBody_of Tryz.func100 (by kernel_rfl)
theorem res100 : Tryz.f100.results = #[(.tmp 4)] := rfl
theorem enter100 {w : World} {R : Value → World → Prop} (x0 x1 : Value) (h : vc Tryz.prog B100 (retK Tryz.prog #[(.tmp 4)] R) [] (initEnv [x0, x1] 0) w) : FnC Tryz.prog 100 #[x0, x1] w R := by
  obtain ⟨c, h1, h2⟩ := code100
  exact hb100.fn (ret_of_vc mixed Tryz.func100 h1 (Nat.le_of_ble_eq_true rfl) B100 h2 h)
@[push_cast] theorem vr100_0 : VR r100_0 [⟨some 4, .assign (.const (.int .i64 0)), 3, none⟩] := vR rfl
@[push_cast] theorem vr100_1 : VR r100_1 [⟨some 6, .move (.tmp 0), 22, none⟩, ⟨some 7, .call ⟨.builtin .len, #[.tmp 6], #[22]⟩, 3, none⟩, ⟨some 8, .move (.const (.int .i64 0)), 3, none⟩] := vR rfl
@[push_cast] theorem vr100_2 : VR r100_2 [⟨some 9, .binOp .lss 3 (.tmp 8) (.tmp 7) 3, 0, none⟩] := vR rfl
@[push_cast] theorem vr100_3 : VR r100_3 [⟨some 10, .move (.tmp 8), 3, none⟩, ⟨some 5, .assign (.tmp 10), 3, none⟩] := vR rfl
@[push_cast] theorem vr100_4 : VR r100_4 [⟨some 11, .move (.tmp 1), 9, none⟩, ⟨some 12, .move (.tmp 0), 22, none⟩, ⟨some 13, .move (.tmp 5), 3, none⟩, ⟨some 14, .indexAddr 22 (.tmp 12) (.tmp 13), 0, none⟩, ⟨some 15, .load 9 (.tmp 14), 9, none⟩, ⟨some 16, .binOp .eql 9 (.tmp 11) (.tmp 15) 9, 4, none⟩] := vR rfl
@[push_cast] theorem vr100_5 : VR r100_5 [⟨some 17, .move (.tmp 5), 3, none⟩, ⟨some 4, .assign (.tmp 17), 3, none⟩] := vR rfl
@[push_cast] theorem vr100_6 : VR r100_6 [⟨some 18, .binOp .add 3 (.tmp 8) (.const (.int .i64 1)) 3, 3, none⟩, ⟨some 8, .move (.tmp 18), 3, none⟩] := vR rfl
@[push_cast] theorem vr100_7 : VR r100_7 [⟨some 4, .assign (.const (.int .i64 (-1))), 3, none⟩] := vR rfl
/-! 101 columbary/bucket.fits (params #[3], results #[(.tmp 2)], 9 slots) -/
def r101_0 : List VOp :=
  [⟨some 2, .assign (.const (.bool false)), 4, none⟩]
def r101_1 : List VOp :=
  [mv 3 0 3,
   ⟨some 4, .binOp .geq 3 (.tmp 3) (.const (.int .i64 (-1099511627776))) 3, 4, none⟩,
   mv 5 4 4,
   ⟨some 6, .move (.tmp 0), 3, some (5, true)⟩,
   ⟨some 7, .binOp .leq 3 (.tmp 6) (.const (.int .i64 1099511627776)) 3, 4, some (5, true)⟩,
   ⟨some 8, .pick (.tmp 5) (.tmp 7) (.const (.bool false)), 4, none⟩,
   asg 2 8 4]
def B101 : VC :=
  (.seq (.region r101_0) (.seq (.region r101_1) .ret))
theorem code101 : ∃ c, Tryz.f101.body = some c ∧ abs Tryz.f101.ntmps c = B101 := ⟨_, rfl, by kernel_rfl⟩
theorem hb101 : HasBody Tryz.prog 101 := hasBody_of Tryz.func101 (by kernel_rfl)
theorem res101 : Tryz.f101.results = #[(.tmp 2)] := rfl
theorem enter101 {w : World} {R : Value → World → Prop} (x0 : Value) (h : vc Tryz.prog B101 (retK Tryz.prog #[(.tmp 2)] R) [] (initEnv [x0] 0) w) : FnC Tryz.prog 101 #[x0] w R := by
  obtain ⟨c, h1, h2⟩ := code101
  exact hb101.fn (ret_of_vc mixed Tryz.func101 h1 (Nat.le_of_ble_eq_true rfl) B101 h2 h)
@[push_cast] theorem vr101_0 : VR r101_0 [⟨some 2, .assign (.const (.bool false)), 4, none⟩] := vR rfl
@[push_cast] theorem vr101_1 : VR r101_1 [⟨some 3, .move (.tmp 0), 3, none⟩, ⟨some 4, .binOp .geq 3 (.tmp 3) (.const (.int .i64 (-1099511627776))) 3, 4, none⟩, ⟨some 5, .move (.tmp 4), 4, none⟩, ⟨some 6, .move (.tmp 0), 3, some (5, true)⟩, ⟨some 7, .binOp .leq 3 (.tmp 6) (.const (.int .i64 1099511627776)) 3, 4, some (5, true)⟩, ⟨some 8, .pick (.tmp 5) (.tmp 7) (.const (.bool false)), 4, none⟩, ⟨some 2, .assign (.tmp 8), 4, none⟩] := vR rfl
/-! 102 columbary/bucket.rest (params #[3, 3], results #[(.tmp 4)], 12 slots) -/
def r102_0 : List VOp :=
  [⟨some 4, .assign (.const (.int .i64 0)), 3, none⟩]
def r102_1 : List VOp :=
  [mv 5 0 3,
   mv 6 1 3,
   ⟨some 7, .binOp .rem 3 (.tmp 5) (.tmp 6) 3, 3, none⟩,
   mv 8 1 3,
   ⟨some 9, .binOp .add 3 (.tmp 7) (.tmp 8) 3, 3, none⟩,
   mv 10 1 3,
   ⟨some 11, .binOp .rem 3 (.tmp 9) (.tmp 10) 3, 3, none⟩,
   asg 4 11 3]
def B102 : VC :=
  (.seq (.region r102_0) (.seq (.region r102_1) .ret))
theorem code102 : ∃ c, Tryz.f102.body = some c ∧ abs Tryz.f102.ntmps c = B102 := ⟨_, rfl, by kernel_rfl⟩
theorem hb102 : HasBody Tryz.prog 102 := hasBody_of Tryz.func102 (by kernel_rfl)
theorem res102 : Tryz.f102.results = #[(.tmp 4)] := rfl
theorem enter102 {w : World} {R : Value → World → Prop} (x0 x1 : Value) (h : vc Tryz.prog B102 (retK Tryz.prog #[(.tmp 4)] R) [] (initEnv [x0, x1] 0) w) : FnC Tryz.prog 102 #[x0, x1] w R := by
  obtain ⟨c, h1, h2⟩ := code102
  exact hb102.fn (ret_of_vc mixed Tryz.func102 h1 (Nat.le_of_ble_eq_true rfl) B102 h2 h)
@[push_cast] theorem vr102_0 : VR r102_0 [⟨some 4, .assign (.const (.int .i64 0)), 3, none⟩] := vR rfl
@[push_cast] theorem vr102_1 : VR r102_1 [⟨some 5, .move (.tmp 0), 3, none⟩, ⟨some 6, .move (.tmp 1), 3, none⟩, ⟨some 7, .binOp .rem 3 (.tmp 5) (.tmp 6) 3, 3, none⟩, ⟨some 8, .move (.tmp 1), 3, none⟩, ⟨some 9, .binOp .add 3 (.tmp 7) (.tmp 8) 3, 3, none⟩, ⟨some 10, .move (.tmp 1), 3, none⟩, ⟨some 11, .binOp .rem 3 (.tmp 9) (.tmp 10) 3, 3, none⟩, ⟨some 4, .assign (.tmp 11), 3, none⟩] := vR rfl
/-! 125 columbary/typer.conditions$1 (params #[29], results #[], 31 slots) -/
def W125_0 : List Nat := [5, 23, 24, 25, 26, 27, 28, 29, 30]
@[push_cast] theorem W125_0_def : W125_0 = [5, 23, 24, 25, 26, 27, 28, 29, 30] := mk_eq rfl
def r125_0 : List VOp :=
  [⟨some 3, .box 29 (.tmp 0), 0, none⟩]
def r125_1 : List VOp :=
  [fad 6 29 3 0,
   lda 7 26 6,
   ⟨some 8, .binOp .eql 26 (.tmp 7) (.const (.int .i64 1)) 26, 4, none⟩,
   mv 9 8 4,
   ⟨some 10, .fieldAddr 29 (.tmp 3) 0, 0, some (9, false)⟩,
   ⟨some 11, .load 26 (.tmp 10), 26, some (9, false)⟩,
   ⟨some 12, .binOp .eql 26 (.tmp 11) (.const (.int .i64 2)) 26, 4, some (9, false)⟩,
   ⟨some 13, .pick (.tmp 9) (.const (.bool true)) (.tmp 12), 4, none⟩]
def r125_2 : List VOp :=
  [lda 14 27 1,
   lda 15 29 3,
   ⟨some 16, .call ⟨.builtin .len, #[.tmp 14], #[27]⟩, 3, none⟩,
   ⟨some 17, .buildSlice 27 1 #[(0, (.const (.agg #[(.int .i64 0), (.string { data := #[] }), (.string { data := #[] }), (.slice none 0 0)])))], 27, none⟩,
   ⟨some 18, .call ⟨.builtin .append, #[.tmp 14, .tmp 17], #[27, 27]⟩, 27, none⟩,
   iad 19 27 18 16,
   ⟨none, .store 29 (.tmp 19) (.tmp 15), 0, none⟩,
   ⟨none, .store 27 (.tmp 1) (.tmp 18), 0, none⟩]
def r125_3 : List VOp :=
  [fad 20 29 3 3,
   lda 21 27 20,
   ⟨some 22, .call ⟨.builtin .len, #[.tmp 21], #[27]⟩, 3, none⟩,
   ⟨some 23, .move (.const (.int .i64 0)), 3, none⟩]
def r125_4 : List VOp :=
  [⟨some 24, .binOp .lss 3 (.tmp 23) (.tmp 22) 3, 0, none⟩]
def r125_5 : List VOp :=
  [iad 25 27 21 23,
   lda 26 29 25,
   ⟨some 5, .alloc 29, 0, none⟩,
   ⟨none, .store 29 (.tmp 5) (.tmp 26), 0, none⟩]
def r125_6 : List VOp :=
  [lda 27 136 2,
   lda 28 29 5,
   ⟨some 29, .call ⟨.value (.tmp 27), #[.tmp 28], #[29]⟩, 0, none⟩]
def r125_7 : List VOp :=
  [⟨some 30, .binOp .add 3 (.tmp 23) (.const (.int .i64 1)) 3, 3, none⟩,
   mv 23 30 3]
def B125 : VC :=
  (.seq (.region r125_0) (.seq (.seq (.region r125_1) (.cond (.tmp 13) (.drawA r125_2 1 [[], [], [0], [], [0, 3, 0, 1, 2, 3], [4, 2, 0, 1, 2, 3, 4], [5, 1, 4, 0, 1, 2, 3, 4], [4, 4, 0, 1, 2, 3, 4]]) .skip)) (.seq (.region r125_3) (.block 0 (.loop (.seq (.region r125_4) (.seq (.cond (.tmp 24) .skip (.exit 0)) (.seq (.block 1 (.seq (.region r125_5) (.region r125_6))) (.region r125_7)))))))))
theorem code125 : ∃ c, Tryz.f125.body = some c ∧ absT Tryz.f125.ntmps c = B125 := ⟨_, rfl, by kernel_rfl⟩
theorem hb125 : HasBody Tryz.prog 125 := hasBody_of Tryz.func125 (by kernel_rfl)
theorem res125 : Tryz.f125.results = #[] := rfl
theorem enter125 {w : World} {R : Value → World → Prop} (x0 x1 x2 : Value) (h : vc Tryz.prog B125 (retK Tryz.prog #[] R) [] (initEnv [x0, x1, x2] 0) w) : FnC Tryz.prog 125 #[x0, x1, x2] w R := by
  obtain ⟨c, h1, h2⟩ := code125
  exact hb125.fn (ret_of_vc mixed Tryz.func125 h1 (Nat.le_of_ble_eq_true rfl) B125 h2 h)
@[push_cast] theorem vr125_0 : VR r125_0 [⟨some 3, .box 29 (.tmp 0), 0, none⟩] := vR rfl
@[push_cast] theorem vr125_1 : VR r125_1 [⟨some 6, .fieldAddr 29 (.tmp 3) 0, 0, none⟩, ⟨some 7, .load 26 (.tmp 6), 26, none⟩, ⟨some 8, .binOp .eql 26 (.tmp 7) (.const (.int .i64 1)) 26, 4, none⟩, ⟨some 9, .move (.tmp 8), 4, none⟩, ⟨some 10, .fieldAddr 29 (.tmp 3) 0, 0, some (9, false)⟩, ⟨some 11, .load 26 (.tmp 10), 26, some (9, false)⟩, ⟨some 12, .binOp .eql 26 (.tmp 11) (.const (.int .i64 2)) 26, 4, some (9, false)⟩, ⟨some 13, .pick (.tmp 9) (.const (.bool true)) (.tmp 12), 4, none⟩] := vR rfl
@[push_cast] theorem vr125_2 : vc Tryz.prog (.drawA r125_2 1 [[], [], [0], [], [0, 3, 0, 1, 2, 3], [4, 2, 0, 1, 2, 3, 4], [5, 1, 4, 0, 1, 2, 3, 4], [4, 4, 0, 1, 2, 3, 4]]) Q ds σ w = drawnA Tryz.prog [⟨some 14, .load 27 (.tmp 1), 27, none⟩, ⟨some 15, .load 29 (.tmp 3), 29, none⟩, ⟨some 16, .call ⟨.builtin .len, #[.tmp 14], #[27]⟩, 3, none⟩, ⟨some 17, .buildSlice 27 1 #[(0, (.const (.agg #[(.int .i64 0), (.string { data := #[] }), (.string { data := #[] }), (.slice none 0 0)])))], 27, none⟩, ⟨some 18, .call ⟨.builtin .append, #[.tmp 14, .tmp 17], #[27, 27]⟩, 27, none⟩, ⟨some 19, .indexAddr 27 (.tmp 18) (.tmp 16), 0, none⟩, ⟨none, .store 29 (.tmp 19) (.tmp 15), 0, none⟩, ⟨none, .store 27 (.tmp 1) (.tmp 18), 0, none⟩] 1 [[], [], [0], [], [0, 3, 0, 1, 2, 3], [4, 2, 0, 1, 2, 3, 4], [5, 1, 4, 0, 1, 2, 3, 4], [4, 4, 0, 1, 2, 3, 4]] (Q .normal ds) σ w := mk_eq rfl
@[push_cast] theorem vr125_3 : VR r125_3 [⟨some 20, .fieldAddr 29 (.tmp 3) 3, 0, none⟩, ⟨some 21, .load 27 (.tmp 20), 27, none⟩, ⟨some 22, .call ⟨.builtin .len, #[.tmp 21], #[27]⟩, 3, none⟩, ⟨some 23, .move (.const (.int .i64 0)), 3, none⟩] := vR rfl
@[push_cast] theorem vr125_4 : VR r125_4 [⟨some 24, .binOp .lss 3 (.tmp 23) (.tmp 22) 3, 0, none⟩] := vR rfl
@[push_cast] theorem vr125_5 : VR r125_5 [⟨some 25, .indexAddr 27 (.tmp 21) (.tmp 23), 0, none⟩, ⟨some 26, .load 29 (.tmp 25), 29, none⟩, ⟨some 5, .alloc 29, 0, none⟩, ⟨none, .store 29 (.tmp 5) (.tmp 26), 0, none⟩] := vR rfl
@[push_cast] theorem vr125_6 : VR r125_6 [⟨some 27, .load 136 (.tmp 2), 136, none⟩, ⟨some 28, .load 29 (.tmp 5), 29, none⟩, ⟨some 29, .call ⟨.value (.tmp 27), #[.tmp 28], #[29]⟩, 0, none⟩] := vR rfl
@[push_cast] theorem vr125_7 : VR r125_7 [⟨some 30, .binOp .add 3 (.tmp 23) (.const (.int .i64 1)) 3, 3, none⟩, ⟨some 23, .move (.tmp 30), 3, none⟩] := vR rfl
@[push_cast] theorem bsl22_0_Codes7A {K : Value → World → Prop} {w : World}  : vBuildSlice Tryz.prog 22 0 #[] K w = K (.slice (some ⟨w.heap.size, 0, none⟩) 0 0) (w.alloc (.cells #[] 9)) :=
  vBuildSlice_ok Tryz.underlying22 ti9 (by kernel_rfl) (by decide)
@[push_cast] theorem bsl22_1_Codes7A {K : Value → World → Prop} {w : World} (x0 : ByteArray) : vBuildSlice Tryz.prog 22 1 #[(0, (.string x0))] K w = K (.slice (some ⟨w.heap.size, 0, none⟩) 1 1) (w.alloc (.cells #[(.string x0)] 9)) :=
  vBuildSlice_ok Tryz.underlying22 ti9 (by kernel_rfl) (by decide)
@[push_cast] theorem bsl27_1_Codes7A {K : Value → World → Prop} {w : World} (x00 x01 x02 x03 : Value) : vBuildSlice Tryz.prog 27 1 #[(0, (.agg #[x00, x01, x02, x03]))] K w = K (.slice (some ⟨w.heap.size, 0, none⟩) 1 1) (w.alloc (.cells #[x00, x01, x02, x03] 29)) :=
  vBuildSlice_ok Tryz.underlying27 ti29 (by kernel_rfl) (by decide)
end Go.Proofs.YtnofalhkapmcnaaGreat
end
section
set_option linter.unusedSimpArgs false
namespace Go.Vc
open Go
/-- Where the first one is; -1: there is none. -/
def idxI {α : Type} (p : α → Bool) (l : List α) : Int := if l.any p then ((l.findIdx p : Nat) : Int) else -1
theorem idxI_hit {α : Type} {p : α → Bool} {l : List α} {i : Nat} (hi : i < l.length) (hp : p l[i] = true) (hno : (l.take i).any p = false) : idxI p l = (i : Int) := by
  have ha : l.any p = true := List.any_eq_true.2 ⟨l[i], List.getElem_mem hi, hp⟩
  have hf : l.findIdx p = i := by
    rw [List.findIdx_eq hi]
    refine ⟨hp, fun j hj => ?_⟩
    cases h : p (l[j]'(by omega)) with
    | false => rfl
    | true =>
      have : (l.take i).any p = true := List.any_eq_true.2 ⟨l[j]'(by omega), List.mem_take_iff_getElem.2 ⟨j, by omega, rfl⟩, h⟩
      rw [hno] at this; cases this
  unfold idxI
  rw [ha, hf]; rfl
theorem idxI_miss {α : Type} {p : α → Bool} {l : List α} (h : l.any p = false) : idxI p l = -1 := by
  unfold idxI; rw [h]; rfl
theorem idxI_ge {α : Type} (p : α → Bool) (l : List α) : decide (0 ≤ idxI p l) = l.any p := by
  cases h : l.any p with
  | true => unfold idxI; rw [h]; exact decide_eq_true (by simp)
  | false => rw [idxI_miss h]; rfl
theorem any_step {α : Type} {p : α → Bool} {l : List α} {i : Nat} (hi : i < l.length) (hp : p l[i] = false) (hno : (l.take i).any p = false) : (l.take (i + 1)).any p = false := by
  rw [List.take_succ_eq_append_getElem hi, List.any_append, hno]
  simp [hp]
theorem idxI_or {α : Type} (p : α → Bool) (l : List α) : (idxI p l = -1 ∧ ∀ x ∈ l, p x = false) ∨ ∃ n : Nat, ∃ hn : n < l.length, idxI p l = (n : Int) ∧ p l[n] = true ∧ ∀ j (hj : j < l.length), j < n → p l[j] = false := by
  cases h : l.any p with
  | false =>
    refine .inl ⟨idxI_miss h, fun x hx => ?_⟩
    cases hp : p x with
    | false => rfl
    | true => rw [List.any_eq_true.2 ⟨x, hx, hp⟩] at h; cases h
  | true =>
    have hlt : l.findIdx p < l.length := List.findIdx_lt_length_of_exists (List.any_eq_true.1 h)
    refine .inr ⟨l.findIdx p, hlt, by unfold idxI; rw [h]; rfl, List.findIdx_getElem (w := hlt), fun j hj hjn => ?_⟩
    have := List.not_of_lt_findIdx hjn
    simpa using this
/-- A function value that tells of one value whether, in every later world. -/
def Prd (P : Program) (w : World) (g : FuncId) (lb : Array Value) (x : Value) (b : Bool) : Prop := ∀ w', Later w w' → FnC P g (#[x] ++ lb) w' fun v w'' => v = .bool b ∧ Later w' w''
theorem Prd.later {P : Program} {w w' : World} {g : FuncId} {lb : Array Value} {x : Value} {b : Bool} (h : Prd P w g lb x b) (hl : Later w w') : Prd P w' g lb x b := fun w2 l2 => h w2 (hl.trans l2)
@[push_cast] theorem app_nil_l (x : Array Value) : (#[] : Array Value) ++ x = x := by simp
end Go.Vc
namespace Go.Proofs.YtnofalhkapmcnaaGreat
open Go.Vc Go.Key
set_option maxRecDepth 100000
theorem sindex_c (v : Value) (l : List ByteArray) (x : ByteArray) (w : World) (h : StS w v l) : FnC Tryz.prog 100 #[v, .string x] w fun r w' => r = .int .i64 (idxI (fun y => decide (x = y)) l) ∧ w' = w := by
  obtain ⟨o, c, rfl, g1, g2, hm, g3⟩ := h.openM
  refine enter100 _ _ ?_
  unfold B100
  repeat' (first | (simp (disch := omega) only [push_cast, ↓reduceIte, zA, zG, zB, zH, zI, zC, zJ, zK, zL, zD, zE, zF, zM, zN, zO, zP, zQ, reduceCtorEq, not_true_eq_false, not_false_eq_true]) | (first | refine iE ?_ ?_ | refine iD ?_ ?_ | refine iQ ?_ ?_ | refine iV ?_ ?_) <;> intro _ | refine And.intro (by omega) ?_ | refine drawn_q ?_ | fail)
  refine vc_loop W100_0 (fun i : Nat => [(8, .int .i64 (i : Int))]) (fun i w' => i ≤ l.length ∧ w' = w ∧ (l.take i).any (fun y => decide (x = y)) = false) (fun i => l.length - i) 0 (by decide) ?_ ?_ ?_
  · simp (disch := omega) only [push_cast, ↓reduceIte, zA, zG, zB, zH, zI, zC, zJ, zK, zL, zD, zE, zF, zM, zN, zO, zP, zQ, reduceCtorEq, not_true_eq_false, not_false_eq_true]
    try rfl
  · exact ⟨Nat.zero_le _, rfl, by simp⟩
  rintro i uu _ ⟨hi, rfl, hno⟩
  by_cases hil : i < l.length
  · have hd : decide ((i : Int) < (l.length : Int)) = true := decide_eq_true (by omega)
    cases o with
    | none => have := (g3 rfl).1; rw [this] at hil; simp at hil
    | some la =>
    have hc := StS.atS hm hil
    by_cases hx : x = l[i]
    · have hd2 : decide (x = l[i]) = true := decide_eq_true hx
      rw [idxI_hit hil hd2 hno]
      repeat' (first | (simp (disch := omega) only [push_cast, ↓reduceIte, zA, zG, zB, zH, zI, zC, zJ, zK, zL, zD, zE, zF, zM, zN, zO, zP, zQ, reduceCtorEq, not_true_eq_false, not_false_eq_true, hd, hc, hd2]) | (first | refine iE ?_ ?_ | refine iD ?_ ?_ | refine iQ ?_ ?_ | refine iV ?_ ?_) <;> intro _ | refine And.intro (by omega) ?_ | refine drawn_q ?_ | fail)
      first | done | exact ⟨rfl, rfl⟩ | rfl | omega
    · have hd2 : decide (x = l[i]) = false := decide_eq_false hx
      repeat' (first | (simp (disch := omega) only [push_cast, ↓reduceIte, zA, zG, zB, zH, zI, zC, zJ, zK, zL, zD, zE, zF, zM, zN, zO, zP, zQ, reduceCtorEq, not_true_eq_false, not_false_eq_true, hd, hc, hd2]) | (first | refine iE ?_ ?_ | refine iD ?_ ?_ | refine iQ ?_ ?_ | refine iV ?_ ?_) <;> intro _ | refine And.intro (by omega) ?_ | refine drawn_q ?_ | fail)
      exact ⟨rfl, i + 1, by simp (disch := omega) only [push_cast, ↓reduceIte, zA, zG, zB, zH, zI, zC, zJ, zK, zL, zD, zE, zF, zM, zN, zO, zP, zQ, reduceCtorEq, not_true_eq_false, not_false_eq_true], ⟨by omega, rfl, any_step hil hd2 hno⟩, by dsimp only; omega⟩
  · have hd : decide ((i : Int) < (l.length : Int)) = false := decide_eq_false (by omega)
    rw [List.take_of_length_le (by omega)] at hno
    rw [idxI_miss hno]
    repeat' (first | (simp (disch := omega) only [push_cast, ↓reduceIte, zA, zG, zB, zH, zI, zC, zJ, zK, zL, zD, zE, zF, zM, zN, zO, zP, zQ, reduceCtorEq, not_true_eq_false, not_false_eq_true, hd]) | (first | refine iE ?_ ?_ | refine iD ?_ ?_ | refine iQ ?_ ?_ | refine iV ?_ ?_) <;> intro _ | refine And.intro (by omega) ?_ | refine drawn_q ?_ | fail)
    first | done | exact ⟨rfl, rfl⟩ | rfl | omega
theorem any_eq (x : ByteArray) (l : List ByteArray) : l.any (fun y => decide (x = y)) = inL x l := by
  unfold inL
  congr 1
  funext y
  exact decide_eq_decide.2 eq_comm
theorem scontains_c (v : Value) (l : List ByteArray) (x : ByteArray) (w : World) (h : StS w v l) : FnC Tryz.prog 52 #[v, .string x] w fun r w' => r = .bool (inL x l) ∧ w' = w := by
  obtain ⟨o, c, rfl, g1, g2, hm, g3⟩ := h.openM
  refine enter52 _ _ ?_
  unfold B52
  repeat' (first | (simp (disch := omega) only [push_cast, ↓reduceIte, zA, zG, zB, zH, zI, zC, zJ, zK, zL, zD, zE, zF, zM, zN, zO, zP, zQ, reduceCtorEq, not_true_eq_false, not_false_eq_true]) | (first | refine iE ?_ ?_ | refine iD ?_ ?_ | refine iQ ?_ ?_ | refine iV ?_ ?_) <;> intro _ | refine And.intro (by omega) ?_ | refine drawn_q ?_ | fail)
  refine (sindex_c _ l x w hm).mono ?_
  rintro _ w0 ⟨rfl, h0⟩; obtain rfl := h0.symm
  have e := idxI_ge (fun y => decide (x = y)) l
  rw [any_eq] at e
  repeat' (first | (simp (disch := omega) only [push_cast, ↓reduceIte, zA, zG, zB, zH, zI, zC, zJ, zK, zL, zD, zE, zF, zM, zN, zO, zP, zQ, reduceCtorEq, not_true_eq_false, not_false_eq_true, e]) | (first | refine iE ?_ ?_ | refine iD ?_ ?_ | refine iQ ?_ ?_ | refine iV ?_ ?_) <;> intro _ | refine And.intro (by omega) ?_ | refine drawn_q ?_ | fail)
theorem sindexF_c (v : Value) (l : List ByteArray) (g : FuncId) (lb : Array Value) (p : ByteArray → Bool) (w : World) (h : StS w v l) (hp : ∀ x ∈ l, Prd Tryz.prog w g lb (.string x) (p x)) : FnC Tryz.prog 99 #[v, .func (.func g) #[] lb] w fun r w' => r = .int .i64 (idxI p l) ∧ Later w w' := by
  obtain ⟨o, c, rfl, g1, g2, hm, g3⟩ := h.openM
  refine enter99 _ _ ?_
  unfold B99
  repeat' (first | (simp (disch := omega) only [push_cast, ↓reduceIte, zA, zG, zB, zH, zI, zC, zJ, zK, zL, zD, zE, zF, zM, zN, zO, zP, zQ, reduceCtorEq, not_true_eq_false, not_false_eq_true]) | (first | refine iE ?_ ?_ | refine iD ?_ ?_ | refine iQ ?_ ?_ | refine iV ?_ ?_) <;> intro _ | refine And.intro (by omega) ?_ | refine drawn_q ?_ | fail)
  refine vc_loop W99_0 (fun i : Nat => [(8, .int .i64 (i : Int))]) (fun i w' => i ≤ l.length ∧ Later w w' ∧ (l.take i).any p = false) (fun i => l.length - i) 0 (by decide) ?_ ?_ ?_
  · simp (disch := omega) only [push_cast, ↓reduceIte, zA, zG, zB, zH, zI, zC, zJ, zK, zL, zD, zE, zF, zM, zN, zO, zP, zQ, reduceCtorEq, not_true_eq_false, not_false_eq_true]
    try rfl
  · exact ⟨Nat.zero_le _, Later.refl _, by simp⟩
  rintro i uu w1 ⟨hi, l1, hno⟩
  by_cases hil : i < l.length
  · have hd : decide ((i : Int) < (l.length : Int)) = true := decide_eq_true (by omega)
    cases o with
    | none => have := (g3 rfl).1; rw [this] at hil; simp at hil
    | some la =>
    have hc := StS.atS (Sl.later hm l1) hil
    repeat' (first | (simp (disch := omega) only [push_cast, ↓reduceIte, zA, zG, zB, zH, zI, zC, zJ, zK, zL, zD, zE, zF, zM, zN, zO, zP, zQ, reduceCtorEq, not_true_eq_false, not_false_eq_true, hd, hc]) | (first | refine iE ?_ ?_ | refine iD ?_ ?_ | refine iQ ?_ ?_ | refine iV ?_ ?_) <;> intro _ | refine And.intro (by omega) ?_ | refine drawn_q ?_ | fail)
    refine (hp l[i] (List.getElem_mem hil) w1 l1).mono ?_
    rintro _ w2 ⟨rfl, l2⟩
    cases hx : p l[i] with
    | true =>
      rw [idxI_hit hil hx hno]
      repeat' (first | (simp (disch := omega) only [push_cast, ↓reduceIte, zA, zG, zB, zH, zI, zC, zJ, zK, zL, zD, zE, zF, zM, zN, zO, zP, zQ, reduceCtorEq, not_true_eq_false, not_false_eq_true]) | (first | refine iE ?_ ?_ | refine iD ?_ ?_ | refine iQ ?_ ?_ | refine iV ?_ ?_) <;> intro _ | refine And.intro (by omega) ?_ | refine drawn_q ?_ | fail)
      first | exact ⟨rfl, (l1.trans l2)⟩ | exact (l1.trans l2)
    | false =>
      repeat' (first | (simp (disch := omega) only [push_cast, ↓reduceIte, zA, zG, zB, zH, zI, zC, zJ, zK, zL, zD, zE, zF, zM, zN, zO, zP, zQ, reduceCtorEq, not_true_eq_false, not_false_eq_true]) | (first | refine iE ?_ ?_ | refine iD ?_ ?_ | refine iQ ?_ ?_ | refine iV ?_ ?_) <;> intro _ | refine And.intro (by omega) ?_ | refine drawn_q ?_ | fail)
      exact ⟨rfl, i + 1, by simp (disch := omega) only [push_cast, ↓reduceIte, zA, zG, zB, zH, zI, zC, zJ, zK, zL, zD, zE, zF, zM, zN, zO, zP, zQ, reduceCtorEq, not_true_eq_false, not_false_eq_true], ⟨by omega, l1.trans l2, any_step hil hx hno⟩, by dsimp only; omega⟩
  · have hd : decide ((i : Int) < (l.length : Int)) = false := decide_eq_false (by omega)
    rw [List.take_of_length_le (by omega)] at hno
    rw [idxI_miss hno]
    repeat' (first | (simp (disch := omega) only [push_cast, ↓reduceIte, zA, zG, zB, zH, zI, zC, zJ, zK, zL, zD, zE, zF, zM, zN, zO, zP, zQ, reduceCtorEq, not_true_eq_false, not_false_eq_true, hd]) | (first | refine iE ?_ ?_ | refine iD ?_ ?_ | refine iQ ?_ ?_ | refine iV ?_ ?_) <;> intro _ | refine And.intro (by omega) ?_ | refine drawn_q ?_ | fail)
    first | exact ⟨rfl, l1⟩ | exact l1
theorem scontainsF_c (v : Value) (l : List ByteArray) (g : FuncId) (lb : Array Value) (p : ByteArray → Bool) (w : World) (h : StS w v l) (hp : ∀ x ∈ l, Prd Tryz.prog w g lb (.string x) (p x)) : FnC Tryz.prog 85 #[v, .func (.func g) #[] lb] w fun r w' => r = .bool (l.any p) ∧ Later w w' := by
  obtain ⟨o, c, rfl, g1, g2, hm, g3⟩ := h.openM
  refine enter85 _ _ ?_
  unfold B85
  repeat' (first | (simp (disch := omega) only [push_cast, ↓reduceIte, zA, zG, zB, zH, zI, zC, zJ, zK, zL, zD, zE, zF, zM, zN, zO, zP, zQ, reduceCtorEq, not_true_eq_false, not_false_eq_true]) | (first | refine iE ?_ ?_ | refine iD ?_ ?_ | refine iQ ?_ ?_ | refine iV ?_ ?_) <;> intro _ | refine And.intro (by omega) ?_ | refine drawn_q ?_ | fail)
  refine (sindexF_c _ l g lb p w hm hp).mono ?_
  rintro _ w1 ⟨rfl, l1⟩
  have e := idxI_ge p l
  repeat' (first | (simp (disch := omega) only [push_cast, ↓reduceIte, zA, zG, zB, zH, zI, zC, zJ, zK, zL, zD, zE, zF, zM, zN, zO, zP, zQ, reduceCtorEq, not_true_eq_false, not_false_eq_true, e]) | (first | refine iE ?_ ?_ | refine iD ?_ ?_ | refine iQ ?_ ?_ | refine iV ?_ ?_) <;> intro _ | refine And.intro (by omega) ?_ | refine drawn_q ?_ | fail)
  first | exact ⟨rfl, l1⟩ | exact l1
theorem sclone_c (v : Value) (l : List ByteArray) (w : World) (h : StS w v l) (hb : l.length ≤ 100000000) : FnC Tryz.prog 50 #[v] w fun r w' => OwnS w' w.heap.size r l ∧ Later w w' := by
  obtain ⟨o, c, rfl, g1, g2, hm, g3⟩ := h.openM
  refine enter50 _ ?_
  unfold B50
  cases o with
  | none =>
    have := (g3 rfl).1
    subst this
    repeat' (first | (simp (disch := omega) only [push_cast, ↓reduceIte, zA, zG, zB, zH, zI, zC, zJ, zK, zL, zD, zE, zF, zM, zN, zO, zP, zQ, reduceCtorEq, not_true_eq_false, not_false_eq_true]) | (first | refine iE ?_ ?_ | refine iD ?_ ?_ | refine iQ ?_ ?_ | refine iV ?_ ?_) <;> intro _ | refine And.intro (by omega) ?_ | refine drawn_q ?_ | fail)
    first | exact ⟨(own_nil w w.heap.size 9 1), (Later.refl _)⟩ | exact (Later.refl _)
  | some a =>
    repeat' (first | (simp (disch := omega) only [push_cast, ↓reduceIte, zA, zG, zB, zH, zI, zC, zJ, zK, zL, zD, zE, zF, zM, zN, zO, zP, zQ, reduceCtorEq, not_true_eq_false, not_false_eq_true]) | (first | refine iE ?_ ?_ | refine iD ?_ ?_ | refine iQ ?_ ?_ | refine iV ?_ ?_) <;> intro _ | refine And.intro (by omega) ?_ | refine drawn_q ?_ | fail)
    have l1 := later_alloc w (.cells #[] 9)
    have hsn := StS.n (Sl.later hm l1)
    refine vAppend_fresh Tryz.underlying22 ti9 rfl (by decide) hsn (by unfold maxLen; omega) (by omega) ?_
    intro v' w'' h0 h1
    rcases Nat.eq_zero_or_pos l.length with hz | hz
    · obtain ⟨rfl, rfl⟩ := h0 hz
      have : l = [] := List.length_eq_zero_iff.1 hz
      subst this
      have h26o : OwnS (w.alloc (.cells #[] 9)) w.heap.size (.slice (some ⟨w.heap.size, 0, none⟩) 0 0) [] := own_lit w [] _ 1 0 rfl (by unfold maxLen; omega) (Nat.le_refl _)
      repeat' (first | (simp (disch := omega) only [push_cast, ↓reduceIte, zA, zG, zB, zH, zI, zC, zJ, zK, zL, zD, zE, zF, zM, zN, zO, zP, zQ, reduceCtorEq, not_true_eq_false, not_false_eq_true]) | (first | refine iE ?_ ?_ | refine iD ?_ ?_ | refine iQ ?_ ?_ | refine iV ?_ ?_) <;> intro _ | refine And.intro (by omega) ?_ | refine drawn_q ?_ | fail)
      first | exact ⟨h26o, l1⟩ | exact l1
    · obtain ⟨ho, hll⟩ := h1 hz
      repeat' (first | (simp (disch := omega) only [push_cast, ↓reduceIte, zA, zG, zB, zH, zI, zC, zJ, zK, zL, zD, zE, zF, zM, zN, zO, zP, zQ, reduceCtorEq, not_true_eq_false, not_false_eq_true]) | (first | refine iE ?_ ?_ | refine iD ?_ ?_ | refine iQ ?_ ?_ | refine iV ?_ ?_) <;> intro _ | refine And.intro (by omega) ?_ | refine drawn_q ?_ | fail)
      first | exact ⟨(own_base ho l1.size), (l1.trans hll)⟩ | exact (l1.trans hll)
end Go.Proofs.YtnofalhkapmcnaaGreat
end
section
namespace Go.Vc
open Go Go.RowKit
section
variable {P : Program}
/-- 'clear' of a slice. -/
theorem vX_clear {t e ty : TypeId} {x : Operand} {σ : Env} {w : World} {K : Value → World → Prop} {z : Value} {s b : Nat} {a : Addr} {m c : Nat} (ht : P.underlying t = some (.slice e)) (hi : (P.info? e).map (fun i => (i.zero, i.size, i.bytes)) = some (some z, s, b))
    (hx : ev σ x = .slice (some a) m c) (hm : 0 < m) (h1 : ∀ u ∈ (Builtin.zeroCells z.cells m).toList, u.oneCell' = true) (hc : canAll w a (Builtin.zeroCells z.cells m).toList) (hk : K (.tuple #[]) (storeAll w a (Builtin.zeroCells z.cells m).toList)) :
    vX P (.call ⟨.builtin .clear, #[x], #[t]⟩) ty σ w K := by
  obtain ⟨i, hi1, hz, hsi, hbi⟩ := info_parts hi
  have hst := run_storeAll (P := P) (Builtin.zeroCells z.cells m).toList a 0 w h1 (by rw [addr_add_zero]; exact hc)
  rw [addr_add_zero] at hst
  have hzv : (zeroValue e).run P w = .ok z w := by simp [zeroValue, typeInfo, hi1, hz]
  obtain ⟨k, rfl⟩ : ∃ k, m = k + 1 := ⟨m - 1, by omega⟩
  have hrun : (Builtin.clear_ #[t] ty #[.slice (some a) (k + 1) c]).run P w = .ok (.tuple #[]) (storeAll w a (Builtin.zeroCells z.cells (k + 1)).toList) := by
    simp [Builtin.clear_, run_underlying ht, hzv, hst]
  have he : exe P (.call ⟨.builtin .clear, #[x], #[t]⟩) ty σ w = (val (Builtin.clear_ #[t] ty #[ev σ x])).run P w := by
    have : execOp (ev σ) { dst := none, op := .call ⟨.builtin .clear, #[x], #[t]⟩, type := ty, pos := "", after := #[], guard := none } = val (Builtin.clear_ #[t] ty #[ev σ x]) := by
      rw [run_maxmin .clear ⟨.builtin .clear, #[x], #[t]⟩ rfl]
      have e : Array.map (ev σ) #[x] = #[ev σ x] := by simp
      show builtin .clear #[t] ty _ (Array.map (ev σ) #[x]) = _
      rw [e]
      rfl
    unfold exe; rw [this]
  unfold vX
  rw [he, hx, run_val_pure hrun]
  exact hk
end
theorem wrs_take : ∀ (new : List Value) (xs : List Value) (p : Nat), (wrs xs p new).take p = xs.take p
  | [], xs, p => rfl
  | v :: vs, xs, p => by
    rw [wrs]
    have h2 := congrArg (List.take p) (wrs_take vs (xs.set p v) (p + 1))
    rw [List.take_take, List.take_take, Nat.min_eq_left (by omega)] at h2
    rw [h2, List.take_set_of_le (Nat.le_refl _)]
section
variable {α : Type} {enc : α → List Value} {k : Nat}
end
theorem filter_step {α : Type} {l : List α} {p : α → Bool} {j : Nat} (hj : j < l.length) : (l.take (j + 1)).filter p = (l.take j).filter p ++ (if p l[j] = true then [l[j]] else []) := by
  rw [take_snoc l j hj, List.filter_append]
  congr 1
  by_cases h : p l[j] = true
  · rw [if_pos h, List.filter_cons_of_pos h]; rfl
  · rw [if_neg h, List.filter_cons_of_neg h]; rfl
end Go.Vc
end
section
set_option linter.unusedSimpArgs false
namespace Go.Proofs.YtnofalhkapmcnaaGreat
open Go.Vc Go.Key
set_option maxRecDepth 100000
theorem zeroS_one (m : Nat) : (∀ u ∈ (Builtin.zeroCells (Value.string ⟨#[]⟩).cells m).toList, u.oneCell' = true) ∧ (Builtin.zeroCells (Value.string ⟨#[]⟩).cells m).toList.length = m := by
  constructor
  · intro u hu
    simp only [Builtin.zeroCells, Array.toList_map, List.mem_map] at hu
    obtain ⟨i, _, rfl⟩ := hu
    have hs : (Value.string ⟨#[]⟩).cells.size = 1 := rfl
    rw [hs, Nat.mod_one]
    rfl
  · simp only [Builtin.zeroCells, Array.toList_map, List.length_map, Array.length_toList, Array.size_range]
    show m * 1 = m
    omega
set_option maxHeartbeats 1000000 in
theorem sdelete_c (B : Nat) (v : Value) (es : List ByteArray) (g : FuncId) (lb : Array Value) (p : ByteArray → Bool) (w0 w : World) (hl : Later w0 w) (hB : w0.heap.size ≤ B) (ho : OwnS w B v es) (hp : ∀ x ∈ es, Prd Tryz.prog w0 g lb (.string x) (p x)) (h63 : es.length ≤ 1000000) :
    FnC Tryz.prog 49 #[v, .func (.func g) #[] lb] w fun r w' => StS w' r (es.filter fun x => !p x) ∧ Later w0 w' := by
  have hst := OwnS.st ho
  obtain ⟨o, c, rfl, g1, g2, hm, g3⟩ := hst.openM
  refine enter49 _ _ ?_
  unfold B49
  repeat' (first | (simp (disch := omega) only [push_cast, ↓reduceIte, zA, zG, zB, zH, zI, zC, zJ, zK, zL, zD, zE, zF, zM, zN, zO, zP, zQ, reduceCtorEq, not_true_eq_false, not_false_eq_true]) | (first | refine iE ?_ ?_ | refine iD ?_ ?_ | refine iQ ?_ ?_ | refine iV ?_ ?_) <;> intro _ | refine And.intro (by omega) ?_ | refine drawn_q ?_ | fail)
  refine (sindexF_c _ es g lb p w hm (fun x hx => (hp x hx).later hl)).mono ?_
  rintro _ w1 ⟨rfl, l1⟩
  have l01 := hl.trans l1
  rcases idxI_or p es with ⟨he, hall⟩ | ⟨n, hn, he, hpn, hbef⟩
  · rw [he]
    have e : (es.filter fun x => !p x) = es := List.filter_eq_self.2 fun x hx => by simp [hall x hx]
    rw [e]
    repeat' (first | (simp (disch := omega) only [push_cast, ↓reduceIte, zA, zG, zB, zH, zI, zC, zJ, zK, zL, zD, zE, zF, zM, zN, zO, zP, zQ, reduceCtorEq, not_true_eq_false, not_false_eq_true]) | (first | refine iE ?_ ?_ | refine iD ?_ ?_ | refine iQ ?_ ?_ | refine iV ?_ ?_) <;> intro _ | refine And.intro (by omega) ?_ | refine drawn_q ?_ | fail)
    first | exact ⟨(Sl.later hm l1), l01⟩ | exact l01
  · rw [he]
    cases o with
    | none => have := (g3 rfl).1; rw [this] at hn; simp at hn
    | some a =>
    obtain ⟨gr, rfl, hgr, _⟩ := own_writes ho
    have hpre : (es.take (n + 1)).filter (fun x => !p x) = es.take n := by
      rw [filter_step hn, if_neg (by rw [hpn]; simp), List.append_nil]
      exact List.filter_eq_self.2 fun x hx => by
        obtain ⟨j, hj, rfl⟩ := List.getElem_of_mem hx
        rw [List.length_take] at hj
        rw [List.getElem_take]
        simp [hbef j (by omega) (by omega)]
    repeat' (first | (simp (disch := omega) only [push_cast, ↓reduceIte, zA, zG, zB, zH, zI, zC, zJ, zK, zL, zD, zE, zF, zM, zN, zO, zP, zQ, reduceCtorEq, not_true_eq_false, not_false_eq_true]) | (first | refine iE ?_ ?_ | refine iD ?_ ?_ | refine iQ ?_ ?_ | refine iV ?_ ?_) <;> intro _ | refine And.intro (by omega) ?_ | refine drawn_q ?_ | fail)
    refine vc_loop W49_0 (fun q : Nat × Nat => [(5, .int .i64 (q.1 : Int)), (6, .int .i64 (q.2 : Int))])
      (fun q w' => q.1 < q.2 ∧ q.2 ≤ es.length ∧ Later w0 w' ∧ ∃ cur : List ByteArray, cur.length = es.length ∧ OwnS w' B (.slice (some ⟨gr, 0, none⟩) es.length c) cur ∧ cur.take q.1 = (es.take q.2).filter (fun x => !p x) ∧ cur.drop q.2 = es.drop q.2) (fun q => es.length - q.2) (n, n + 1) (by decide) ?_ ?_ ?_
    · simp (disch := omega) only [push_cast, ↓reduceIte, zA, zG, zB, zH, zI, zC, zJ, zK, zL, zD, zE, zF, zM, zN, zO, zP, zQ, reduceCtorEq, not_true_eq_false, not_false_eq_true]
    · exact ⟨by dsimp only; omega, by dsimp only; omega, l01, es, rfl, own_later ho l1, by dsimp only; exact hpre.symm, rfl⟩
    rintro ⟨i, j⟩ uu w2 ⟨hij, hj, l2, cur, hcl, hO, hT, hD⟩
    dsimp only at hij hj hT hD
    by_cases hlt : j < es.length
    · have hlt' : j < cur.length := by omega
      have hcur : cur[j] = es[j] := by
        have := congrArg (fun l => l[0]?) hD
        simp only [List.getElem?_drop, Nat.add_zero] at this
        rw [List.getElem?_eq_getElem hlt', List.getElem?_eq_getElem hlt] at this
        exact Option.some.inj this
      have f1 := StS.atS (OwnS.st hO) hlt'
      rw [hcur] at f1
      have hstep := filter_step (p := fun x => !p x) hlt
      have hpx := hp es[j] (List.getElem_mem _)
      have hD' : cur.drop (j + 1) = es.drop (j + 1) := by
        have := congrArg (List.drop 1) hD
        simpa [List.drop_drop] using this
      generalize es[j] = x at *
      rw [addr_add_eq, Nat.zero_add] at f1
      have t1 : (i : Int).toNat = i := Int.toNat_natCast _
      repeat' (first | (simp (disch := omega) only [push_cast, ↓reduceIte, zA, zG, zB, zH, zI, zC, zJ, zK, zL, zD, zE, zF, zM, zN, zO, zP, zQ, reduceCtorEq, not_true_eq_false, not_false_eq_true, f1, addr_add_eq, Nat.zero_add]) | (first | refine iE ?_ ?_ | refine iD ?_ ?_ | refine iQ ?_ ?_ | refine iV ?_ ?_) <;> intro _ | refine And.intro (by omega) ?_ | refine drawn_q ?_ | fail)
      refine (hpx w2 l2).mono ?_
      rintro _ w4 ⟨rfl, l4⟩
      have l24 := l2.trans l4
      cases hx : p x with
      | true =>
        repeat' (first | (simp (disch := omega) only [push_cast, ↓reduceIte, zA, zG, zB, zH, zI, zC, zJ, zK, zL, zD, zE, zF, zM, zN, zO, zP, zQ, reduceCtorEq, not_true_eq_false, not_false_eq_true]) | (first | refine iE ?_ ?_ | refine iD ?_ ?_ | refine iQ ?_ ?_ | refine iV ?_ ?_) <;> intro _ | refine And.intro (by omega) ?_ | refine drawn_q ?_ | fail)
        refine ⟨rfl, (i, j + 1), by simp (disch := omega) only [push_cast, ↓reduceIte, zA, zG, zB, zH, zI, zC, zJ, zK, zL, zD, zE, zF, zM, zN, zO, zP, zQ, reduceCtorEq, not_true_eq_false, not_false_eq_true], ⟨by dsimp only; omega, by dsimp only; omega, l24, cur, hcl, own_later hO l4, ?_, hD'⟩, by dsimp only; omega⟩
        dsimp only
        rw [hstep, if_neg (by simp [hx]), List.append_nil, hT]
      | false =>
        have hO4 := own_later hO l4
        obtain ⟨o5, ⟨y, hy⟩, hfz⟩ := own_set (i := i) hO4 (by omega) (.string x)
        have l5 : Later w0 (w4.setCell ⟨gr, i, none⟩ (.string x)) := l24.setCell (by dsimp only; omega) _
        repeat' (first | (simp (disch := omega) only [push_cast, ↓reduceIte, zA, zG, zB, zH, zI, zC, zJ, zK, zL, zD, zE, zF, zM, zN, zO, zP, zQ, reduceCtorEq, not_true_eq_false, not_false_eq_true, hy, hfz, addr_add_eq, Nat.zero_add]) | (first | refine iE ?_ ?_ | refine iD ?_ ?_ | refine iQ ?_ ?_ | refine iV ?_ ?_) <;> intro _ | refine And.intro (by omega) ?_ | refine drawn_q ?_ | fail)
        generalize w4.setCell ⟨gr, i, none⟩ (.string x) = w5 at *
        refine ⟨rfl, (i + 1, j + 1), by simp (disch := omega) only [push_cast, ↓reduceIte, zA, zG, zB, zH, zI, zC, zJ, zK, zL, zD, zE, zF, zM, zN, zO, zP, zQ, reduceCtorEq, not_true_eq_false, not_false_eq_true], ⟨by dsimp only; omega, by dsimp only; omega, l5, cur.set i x, by simp [hcl], ?_, ?_, ?_⟩, by dsimp only; omega⟩
        · unfold OwnS
          rw [List.length_set, List.map_set]
          exact o5
        · dsimp only
          rw [hstep, if_pos (by simp [hx]), ← hT]
          rw [List.take_set, List.take_add_one, List.getElem?_eq_getElem (show i < cur.length by omega)]
          simp only [Option.toList_some]
          rw [List.set_append_right _ _ (by simp; omega)]
          have : (i - (cur.take i).length) = 0 := by simp; omega
          rw [this]
          simp
        · dsimp only
          rw [List.drop_set_of_lt (by omega)]
          exact hD'
    · have hje : j = es.length := by omega
      subst hje
      rw [List.take_length] at hT
      obtain ⟨g', hg', hBg, _, ⟨cs, hb⟩, hcan⟩ := own_writes hO
      obtain rfl : gr = g' := congrArg Addr.block hg'
      obtain ⟨hz1, hz2⟩ := zeroS_one (es.length - i)
      have em : ((es.length : Int) - (i : Int)).toNat = es.length - i := by omega
      have ea : slAddr (some ⟨gr, 0, none⟩) (i : Int) (c : Int) 1 = some ⟨gr, i, none⟩ := by
        unfold slAddr
        rw [if_neg (by omega), Option.map_some, addr_add_eq, Nat.zero_add, Int.toNat_natCast, Nat.mul_one]
      repeat' (first | (simp (disch := omega) only [push_cast, ↓reduceIte, zA, zG, zB, zH, zI, zC, zJ, zK, zL, zD, zE, zF, zM, zN, zO, zP, zQ, reduceCtorEq, not_true_eq_false, not_false_eq_true]) | (first | refine iE ?_ ?_ | refine iD ?_ ?_ | refine iQ ?_ ?_ | refine iV ?_ ?_) <;> intro _ | refine And.intro (by omega) ?_ | refine drawn_q ?_ | fail)
      refine vX_clear (m := es.length - i) (a := ⟨gr, i, none⟩) (c := ((c : Int) - (i : Int)).toNat) Tryz.underlying22 (z := .string ⟨#[]⟩) ti9 (by simp (disch := omega) only [push_cast, ↓reduceIte, zA, zG, zB, zH, zI, zC, zJ, zK, zL, zD, zE, zF, zM, zN, zO, zP, zQ, reduceCtorEq, not_true_eq_false, not_false_eq_true, em, ea]) (by omega) hz1 (hcan _ _ (by rw [hz2]; omega)) ?_
      obtain ⟨q1, q2⟩ := own_storeAll (Builtin.zeroCells (Value.string ⟨#[]⟩).cells (es.length - i)).toList w2 i (cur.map Value.string) hO (by rw [hz2]; omega)
      generalize storeAll w2 ⟨gr, i, none⟩ (Builtin.zeroCells (Value.string ⟨#[]⟩).cells (es.length - i)).toList = w3 at *
      have l3 : Later w0 w3 := Chg.later l2 q2 (by intro q hq; rw [List.mem_singleton.1 hq]; omega)
      rw [hcl] at q1
      have hs := SlN.preN (SlN.of_own q1) (k := i) (by omega)
      rw [Nat.mul_one, wrs_take, ← List.map_take, hT] at hs
      have hlen : (es.filter (fun x => !p x)).length = i := by rw [← hT, List.length_take]; omega
      have hRec : StS w3 (.slice (some ⟨gr, 0, none⟩) i c) (es.filter (fun x => !p x)) := by
        unfold StS Sl
        rw [List.length_map, hlen]
        exact hs
      repeat' (first | (simp (disch := omega) only [push_cast, ↓reduceIte, zA, zG, zB, zH, zI, zC, zJ, zK, zL, zD, zE, zF, zM, zN, zO, zP, zQ, reduceCtorEq, not_true_eq_false, not_false_eq_true]) | (first | refine iE ?_ ?_ | refine iD ?_ ?_ | refine iQ ?_ ?_ | refine iV ?_ ?_) <;> intro _ | refine And.intro (by omega) ?_ | refine drawn_q ?_ | fail)
      first | exact ⟨hRec, l3⟩ | exact l3
end Go.Proofs.YtnofalhkapmcnaaGreat
end
section
set_option linter.unusedSimpArgs false
namespace Go.Vc
mutual
def FT.conds : FT → List FT
  | .mk op d v kv l => (if op = 1 ∨ op = 2 then [.mk op d v kv l] else []) ++ FT.condsL l
def FT.condsL : List FT → List FT
  | [] => []
  | k :: l => k.conds ++ FT.condsL l
end
theorem FT.conds_is (f : FT) : f.conds = (if f.op = 1 ∨ f.op = 2 then [f] else []) ++ f.kids.flatMap FT.conds := by
  obtain ⟨op, d, v, kv, l⟩ := f
  have : ∀ l : List FT, FT.condsL l = l.flatMap FT.conds := by
    intro l
    induction l with
    | nil => rfl
    | cons k l ih => show k.conds ++ FT.condsL l = _; rw [ih]; rfl
  show _ ++ FT.condsL l = _
  rw [this]
  rfl
theorem FT.conds_dims : ∀ f : FT, f.conds.map FT.dim = f.dims := by
  intro f
  induction f using FT.ind with
  | h f ih =>
    rw [FT.conds_is, FT.dims_is, List.map_append]
    congr 1
    · split <;> rfl
    · rw [List.map_flatMap]
      generalize f.kids = l at *
      induction l with
      | nil => rfl
      | cons k l ihl => rw [List.flatMap_cons, List.flatMap_cons, ih k (by simp), ihl fun x hx => ih x (by simp [hx])]
theorem FT.conds_vals : ∀ f : FT, f.conds.map FT.value = f.cvals := by
  intro f
  induction f using FT.ind with
  | h f ih =>
    rw [FT.conds_is, FT.cvals_is, List.map_append]
    congr 1
    · split <;> rfl
    · rw [List.map_flatMap]
      generalize f.kids = l at *
      induction l with
      | nil => rfl
      | cons k l ihl => rw [List.flatMap_cons, List.flatMap_cons, ih k (by simp), ihl fun x hx => ih x (by simp [hx])]
theorem FT.conds_ok {w : World} : ∀ f : FT, f.Ok w → ∀ k ∈ f.conds, k.Ok w := by
  intro f
  induction f using FT.ind with
  | h f ih =>
    intro hf k hk
    rw [FT.conds_is] at hk
    rcases List.mem_append.1 hk with h | h
    · split at h
      · rw [List.mem_singleton.1 h]; exact hf
      · cases h
    · obtain ⟨x, hx, hk⟩ := List.mem_flatMap.1 h
      exact ih x hx ((FT.ok_iff.1 hf).2.2.2.2 x hx) k hk
theorem FT.conds_cnt (f : FT) : f.conds.length ≤ f.cnt := by
  have h := FT.dims_cnt f
  rw [← FT.conds_dims, List.length_map] at h
  exact h
/-- Their kinds, for the words of the document. -/
theorem FT.cnt_kids (f : FT) : (f.kids.map FT.cnt).sum + 1 = f.cnt := by
  rw [FT.cnt_is]
  congr 1
  generalize f.kids = l
  induction l with
  | nil => rfl
  | cons k l ih => show _ = k.cnt + FT.cntL l; rw [← ih]; rfl
end Go.Vc
namespace Go.Proofs.YtnofalhkapmcnaaGreat
open Go.Vc Go.Key
set_option maxRecDepth 100000
def zeroF : FT := .mk 0 ⟨#[]⟩ ⟨#[]⟩ (.slice none 0 0) []
theorem ftC_one {f : FT} {w : World} (h : f.Ok w) : ∀ u ∈ ftC f, u.oneCell' = true := by
  obtain ⟨o, c, hkv, _⟩ := RecS.slice (FT.ok_iff.1 h).2.2.2.1
  intro u hu
  simp only [ftC, List.mem_cons, List.not_mem_nil, or_false] at hu
  rcases hu with rfl | rfl | rfl | rfl
  · rfl
  · rfl
  · rfl
  · rw [hkv]; rfl
abbrev pt (k : Nat) : Value := .pointer (some ⟨k, 0, none⟩)
/-- The captured variables: the list so far, and the function itself. -/
structure WSt (w0 : World) (ko kw : Nat) (w : World) (acc : List FT) : Prop where
  l : Later w0 w
  hko : w0.heap.size ≤ ko
  hkw : w0.heap.size ≤ kw
  out : ∃ ov, Blk w ko #[ov] 27 ∧ OwnR ftC 4 w w0.heap.size 29 ov acc
  fn : Blk w kw #[.func (.func 125) #[] #[pt ko, pt kw]] 136
/-- What holds when some of the operations are done. -/
def IB (ko kw kf : Nat) (f : FT) (acc : List FT) (ov : Value) (w0 w1 : World) (b0 b1 b2 b3 b4 b5 b6 b7 : Bool) (s1 s2 s3 s14 s15 s16 s17 s18 s19 : Value) (w : World) : Prop :=
  (s1 = pt ko ∧ s2 = pt kw ∧ s3 = pt kf) ∧
  ((b4 = false ∧ b5 = false ∧ b6 = false ∧ b7 = false ∧ Later w1 w ∧ (b0 = true → s14 = ov) ∧ (b1 = true → s15 = .agg (ftC f).toArray) ∧ (b2 = true → s16 = .int .i64 (acc.length : Int)) ∧ (b3 = true → ∃ b, s17 = .slice (some ⟨b, 0, none⟩) 1 1 ∧ Blk w b (ftC zeroF).toArray 29)) ∨
   (b0 = true ∧ b1 = true ∧ b2 = true ∧ b3 = true ∧ b4 = true ∧ s15 = .agg (ftC f).toArray ∧ s16 = .int .i64 (acc.length : Int) ∧ Later w0 w ∧ Blk w kf (ftC f).toArray 29 ∧ Blk w kw #[.func (.func 125) #[] #[pt ko, pt kw]] 136 ∧
     ∃ g c, g ≠ kf ∧ s18 = .slice (some ⟨g, 0, none⟩) (acc.length + 1) c ∧ OwnR ftC 4 w w0.heap.size 29 (.slice (some ⟨g, 0, none⟩) (acc.length + 1) c) (acc ++ [if b6 = true then f else zeroF]) ∧
       (b5 = true → s19 = .pointer (some ⟨g, acc.length * 4, none⟩)) ∧ Blk w ko #[if b7 = true then .slice (some ⟨g, 0, none⟩) (acc.length + 1) c else ov] 27))
theorem waits_at' {dps : List (List Nat)} {D : Nat → Bool} {j : Nat} (h : waitsOk dps D j) {ds : List Nat} (hd : dps[j]? = some ds) {i : Nat} (hi : i ∈ ds) : D i = true := h ds hd i hi
theorem grown_not {w w' : World} {r : Option Nat} {k : Nat} {cs : Array Value} {e : TypeId} (g : w.grownBy w' r) (h : Blk w k cs e) (hk : r ≠ some k) : Blk w' k cs e := by
  unfold Blk at *
  rw [g.block k (Blk.lt h) fun he => hk (by first | exact he | exact he.symm)]; exact h
theorem own_succ {w : World} {base s n : Nat} {e : TypeId} {v : Value} {xs : List Value} (h : w.ownsRow base e s v (n + 1) xs) : ∃ g c, v = .slice (some ⟨g, 0, none⟩) (n + 1) c := by
  obtain ⟨_, h⟩ := h
  rcases h with ⟨_, h0⟩ | ⟨g, cap, cur, hv, _⟩
  · simp at h0
  · exact ⟨g, cap, hv⟩
theorem blk_ne {w : World} {k j : Nat} {cs ds : Array Value} {e e' : TypeId} (h : Blk w k cs e) (g : Blk w j ds e') (hne : e ≠ e') : k ≠ j := by
  intro hk
  subst hk
  unfold Blk at *
  rw [h] at g
  simp only [Option.some.injEq, Obj.cells.injEq] at g
  exact hne g.2.1
set_option maxHeartbeats 2000000 in
theorem reg_c {w0 w1 : World} {ko kw kf oc : Nat} {oo : Option Addr} {f : FT} {acc : List FT} {K : Env → World → Prop} {σ : Env} (e1 : σ 1 = pt ko) (e2 : σ 2 = pt kw) (e3 : σ 3 = pt kf) (l01 : Later w0 w1) (hf : f.Ok w0) (hko : w0.heap.size ≤ ko) (hkw : w0.heap.size ≤ kw)
    (Bo : Blk w1 ko #[.slice oo acc.length oc] 27) (ho : OwnR ftC 4 w1 w0.heap.size 29 (.slice oo acc.length oc) acc) (Bw : Blk w1 kw #[.func (.func 125) #[] #[pt ko, pt kw]] 136) (B1 : Blk w1 kf (ftC f).toArray 29)
    (hbig : ∀ k, (Value.slice oo acc.length oc).ownBlock = some k → k < kf) (hkf : kf < w1.heap.size) (hcn : acc.length ≤ 100000000)
    (hK : ∀ (σ1 : Env) (w2 : World), σ1 2 = pt kw → σ1 3 = pt kf → Blk w2 kf (ftC f).toArray 29 → WSt w0 ko kw w2 (acc ++ [f]) → K σ1 w2) :
    anyA Tryz.prog r125_2 [[], [], [0], [], [0, 3, 0, 1, 2, 3], [4, 2, 0, 1, 2, 3, 4], [5, 1, 4, 0, 1, 2, 3, 4], [4, 4, 0, 1, 2, 3, 4]] K σ w1 := by
  refine ⟨fun D σ w => IB ko kw kf f acc (.slice oo acc.length oc) w0 w1 (D 0) (D 1) (D 2) (D 3) (D 4) (D 5) (D 6) (D 7) (σ 1) (σ 2) (σ 3) (σ 14) (σ 15) (σ 16) (σ 17) (σ 18) (σ 19) w, ?_, ?_, ?_⟩
  · intro w' hl
    exact ⟨⟨e1, e2, e3⟩, .inl ⟨rfl, rfl, rfl, rfl, hl, (fun h => by cases h), (fun h => by cases h), (fun h => by cases h), (fun h => by cases h)⟩⟩
  · intro D σ1 w2 j o hcl hI hoj hDj hwt
    obtain ⟨⟨g1, g2, g3⟩, hI⟩ := hI
    match j, hoj with
    | 0, hoj =>
      obtain rfl := Option.some.inj hoj
      rcases hI with ⟨d4, d5, d6, d7, l2, k0, k1, k2, k3⟩ | ⟨q0, _⟩
      · have bo := (Bo.chg (Chg.of_later (ks := []) l2) (by simp)).cell 0
        repeat' (first | (simp (disch := omega) only [push_cast, ↓reduceIte, zA, zG, zB, zH, zI, zC, zJ, zK, zL, zD, zE, zF, zM, zN, zO, zP, zQ, reduceCtorEq, not_true_eq_false, not_false_eq_true, g1, bo]) | (first | refine iE ?_ ?_ | refine iD ?_ ?_ | refine iQ ?_ ?_ | refine iV ?_ ?_) <;> intro _ | refine And.intro (by omega) ?_ | refine drawn_q ?_ | fail)
        exact ⟨⟨rfl, g2, g3⟩, .inl ⟨d4, d5, d6, d7, l2, fun _ => rfl, k1, k2, k3⟩⟩
      · rw [q0] at hDj; cases hDj
    | 1, hoj =>
      obtain rfl := Option.some.inj hoj
      rcases hI with ⟨d4, d5, d6, d7, l2, k0, k1, k2, k3⟩ | ⟨_, q0, _⟩
      · have f2 : cellsAt w2 ⟨kf, 0, none⟩ 4 = some (ftC f) := Blk.cellsAt (l := ftC f) (ftLater B1 l2)
        repeat' (first | (simp (disch := omega) only [push_cast, ↓reduceIte, zA, zG, zB, zH, zI, zC, zJ, zK, zL, zD, zE, zF, zM, zN, zO, zP, zQ, reduceCtorEq, not_true_eq_false, not_false_eq_true, g3, f2]) | (first | refine iE ?_ ?_ | refine iD ?_ ?_ | refine iQ ?_ ?_ | refine iV ?_ ?_) <;> intro _ | refine And.intro (by omega) ?_ | refine drawn_q ?_ | fail)
        exact ⟨⟨g1, g2, rfl⟩, .inl ⟨d4, d5, d6, d7, l2, k0, fun _ => rfl, k2, k3⟩⟩
      · rw [q0] at hDj; cases hDj
    | 2, hoj =>
      obtain rfl := Option.some.inj hoj
      rcases hI with ⟨d4, d5, d6, d7, l2, k0, k1, k2, k3⟩ | ⟨_, _, q0, _⟩
      · have h14 := k0 (waits_at' hwt rfl (by simp))
        repeat' (first | (simp (disch := omega) only [push_cast, ↓reduceIte, zA, zG, zB, zH, zI, zC, zJ, zK, zL, zD, zE, zF, zM, zN, zO, zP, zQ, reduceCtorEq, not_true_eq_false, not_false_eq_true, h14]) | (first | refine iE ?_ ?_ | refine iD ?_ ?_ | refine iQ ?_ ?_ | refine iV ?_ ?_) <;> intro _ | refine And.intro (by omega) ?_ | refine drawn_q ?_ | fail)
        exact ⟨⟨g1, g2, g3⟩, .inl ⟨d4, d5, d6, d7, l2, fun _ => rfl, k1, fun _ => rfl, k3⟩⟩
      · rw [q0] at hDj; cases hDj
    | 3, hoj =>
      obtain rfl := Option.some.inj hoj
      rcases hI with ⟨d4, d5, d6, d7, l2, k0, k1, k2, k3⟩ | ⟨_, _, _, q0, _⟩
      · repeat' (first | (simp (disch := omega) only [push_cast, ↓reduceIte, zA, zG, zB, zH, zI, zC, zJ, zK, zL, zD, zE, zF, zM, zN, zO, zP, zQ, reduceCtorEq, not_true_eq_false, not_false_eq_true]) | (first | refine iE ?_ ?_ | refine iD ?_ ?_ | refine iQ ?_ ?_ | refine iV ?_ ?_) <;> intro _ | refine And.intro (by omega) ?_ | refine drawn_q ?_ | fail)
        exact ⟨⟨g1, g2, g3⟩, .inl ⟨d4, d5, d6, d7, l2.trans (later_alloc _ _), k0, k1, k2, fun _ => ⟨_, rfl, Blk.new _ _ _⟩⟩⟩
      · rw [q0] at hDj; cases hDj
    | 4, hoj =>
      obtain rfl := Option.some.inj hoj
      rcases hI with ⟨d4, d5, d6, d7, l2, k0, k1, k2, k3⟩ | ⟨_, _, _, _, q0, _⟩
      · have D0 := waits_at' hwt rfl (i := 0) (by simp)
        have D1 := waits_at' hwt rfl (i := 1) (by simp)
        have D2 := waits_at' hwt rfl (i := 2) (by simp)
        have D3 := waits_at' hwt rfl (i := 3) (by simp)
        have h14 := k0 D0
        have h15 := k1 D1
        have h16 := k2 D2
        obtain ⟨b, h17, Bb⟩ := k3 D3
        have ho2 := ho.later l2
        repeat' (first | (simp (disch := omega) only [push_cast, ↓reduceIte, zA, zG, zB, zH, zI, zC, zJ, zK, zL, zD, zE, zF, zM, zN, zO, zP, zQ, reduceCtorEq, not_true_eq_false, not_false_eq_true, h14, h17]) | (first | refine iE ?_ ?_ | refine iD ?_ ?_ | refine iQ ?_ ?_ | refine iV ?_ ?_) <;> intro _ | refine And.intro (by omega) ?_ | refine drawn_q ?_ | fail)
        refine vAppend_at Tryz.underlying27 ti29 rfl (by decide) ho2 (RecS.lit1 (enc := ftC) (k := 4) (y := zeroF) rfl Bb) (by decide) (by unfold maxLen; simp only [List.length_cons, List.length_nil]; omega) (by simp only [List.length_cons, List.length_nil]; omega) (Nat.le_trans l01.size l2.size) ?_
        intro v' w' ho' hg hs
        obtain ⟨g, c, rfl⟩ := own_succ ho'
        have hgk : g ≠ kf := by
          rcases hs with h | h
          · have := hbig g (by rw [← h]; rfl)
            omega
          · have h : some g = some w2.heap.size := h
            have := Option.some.inj h
            have := l2.size
            omega
        have Bw2 := Bw.chg (Chg.of_later (ks := []) l2) (by simp)
        have Bo2 := Bo.chg (Chg.of_later (ks := []) l2) (by simp)
        have hB2 := grown_not hg (ftLater B1 l2) (fun h => by have := hbig kf h; omega)
        repeat' (first | (simp (disch := omega) only [push_cast, ↓reduceIte, zA, zG, zB, zH, zI, zC, zJ, zK, zL, zD, zE, zF, zM, zN, zO, zP, zQ, reduceCtorEq, not_true_eq_false, not_false_eq_true]) | (first | refine iE ?_ ?_ | refine iD ?_ ?_ | refine iQ ?_ ?_ | refine iV ?_ ?_) <;> intro _ | refine And.intro (by omega) ?_ | refine drawn_q ?_ | fail)
        refine ⟨⟨g1, g2, g3⟩, .inr ⟨D0, D1, D2, D3, rfl, h15, h16, (l01.trans l2).appended ho2 (Nat.le_refl _) hg, hB2, grown_ne ho2 hg Bw2 (by decide), g, c, hgk, rfl, ?_, ?_, ?_⟩⟩
        · show OwnR ftC 4 w' w0.heap.size 29 _ (acc ++ [if D 6 = true then f else zeroF])
          rw [d6]
          unfold OwnR
          simpa using ho'
        · intro h
          have h : D 5 = true := h
          rw [d5] at h; cases h
        · show Blk w' ko #[if D 7 = true then _ else _] _
          rw [d7]
          exact grown_ne ho2 hg Bo2 (by decide)
      · rw [q0] at hDj; cases hDj
    | 5, hoj =>
      obtain rfl := Option.some.inj hoj
      have D4 := waits_at' hwt rfl (i := 4) (by simp)
      rcases hI with ⟨d4, _⟩ | ⟨q0, q1, q2, q3, q4, h15, h16, hl, hB, hw, g, c, hgk, h18, hO, h19, hBo⟩
      · rw [d4] at D4; cases D4
      · have t1 : ((acc.length : Int)).toNat = acc.length := Int.toNat_natCast _
        repeat' (first | (simp (disch := omega) only [push_cast, ↓reduceIte, zA, zG, zB, zH, zI, zC, zJ, zK, zL, zD, zE, zF, zM, zN, zO, zP, zQ, reduceCtorEq, not_true_eq_false, not_false_eq_true, h18, h16, t1, addr_add_eq, Nat.zero_add]) | (first | refine iE ?_ ?_ | refine iD ?_ ?_ | refine iQ ?_ ?_ | refine iV ?_ ?_) <;> intro _ | refine And.intro (by omega) ?_ | refine drawn_q ?_ | fail)
        exact ⟨⟨g1, g2, g3⟩, .inr ⟨q0, q1, q2, q3, q4, h15, rfl, hl, hB, hw, g, c, hgk, rfl, hO, fun _ => rfl, hBo⟩⟩
    | 6, hoj =>
      obtain rfl := Option.some.inj hoj
      have D5 := waits_at' hwt rfl (i := 5) (by simp)
      rcases hI with ⟨d4, d5, _⟩ | ⟨q0, q1, q2, q3, q4, h15, h16, hl, hB, hw, g, c, hgk, h18, hO, h19, hBo⟩
      · rw [d5] at D5; cases D5
      · have h19' := h19 D5
        rw [hDj] at hO
        obtain ⟨g', hg', hgB, ⟨cs, hb⟩, hcan, ho8, hc8⟩ := OwnR.set ftC_len hO (i := acc.length) (by simp) f
        obtain rfl : g = g' := congrArg Addr.block hg'
        rw [addr_add_eq, Nat.zero_add] at hcan ho8 hc8
        repeat' (first | (simp (disch := omega) only [push_cast, ↓reduceIte, zA, zG, zB, zH, zI, zC, zJ, zK, zL, zD, zE, zF, zM, zN, zO, zP, zQ, reduceCtorEq, not_true_eq_false, not_false_eq_true, h19', h15]) | (first | refine iE ?_ ?_ | refine iD ?_ ?_ | refine iQ ?_ ?_ | refine iV ?_ ?_) <;> intro _ | refine And.intro (by omega) ?_ | refine drawn_q ?_ | fail)
        refine ⟨rfl, fun u hu => ftC_one hf u (by simpa [Value.cells] using hu), hcan, ?_⟩
        have ex : (Value.agg (ftC f).toArray).cells.toList = ftC f := rfl
        rw [ex]
        have hset : (acc ++ [if (false : Bool) = true then f else zeroF]).set acc.length f = acc ++ [f] := by simp
        rw [hset] at ho8
        generalize storeAll w2 ⟨g, acc.length * 4, none⟩ (ftC f) = w8 at *
        have n1 := blk_ne hBo hb (by decide)
        have n2 := blk_ne hw hb (by decide)
        repeat' (first | (simp (disch := omega) only [push_cast, ↓reduceIte, zA, zG, zB, zH, zI, zC, zJ, zK, zL, zD, zE, zF, zM, zN, zO, zP, zQ, reduceCtorEq, not_true_eq_false, not_false_eq_true]) | (first | refine iE ?_ ?_ | refine iD ?_ ?_ | refine iQ ?_ ?_ | refine iV ?_ ?_) <;> intro _ | refine And.intro (by omega) ?_ | refine drawn_q ?_ | fail)
        refine ⟨⟨g1, g2, g3⟩, .inr ⟨q0, q1, q2, q3, q4, ?_, h16, Chg.later hl hc8 (by intro j hj; rw [List.mem_singleton.1 hj]; exact hgB), hB.chg hc8 (by simpa using Ne.symm hgk), hw.chg hc8 (by simpa using n2), g, c, hgk, h18, ?_, h19, hBo.chg hc8 (by simpa using n1)⟩⟩
        · first | exact h15 | rfl
        · exact ho8
    | 7, hoj =>
      obtain rfl := Option.some.inj hoj
      have D4 := waits_at' hwt rfl (i := 4) (by simp)
      rcases hI with ⟨d4, _⟩ | ⟨q0, q1, q2, q3, q4, h15, h16, hl, hB, hw, g, c, hgk, h18, hO, h19, hBo⟩
      · rw [d4] at D4; cases D4
      · rw [hDj] at hBo
        have hcell : w2.cell? ⟨ko, 0, none⟩ = some (.slice oo acc.length oc) := hBo.cell 0
        have hfz := hBo.frozen 0
        have n1 := blk_ne hB hBo (by decide)
        have n2 := blk_ne hw hBo (by decide)
        have hc8 : Chg w2 (w2.setCell ⟨ko, 0, none⟩ (.slice (some ⟨g, 0, none⟩) (acc.length + 1) c)) [ko] := chg_setCell w2 (by simp) _
        have hBo8 : Blk (w2.setCell ⟨ko, 0, none⟩ (.slice (some ⟨g, 0, none⟩) (acc.length + 1) c)) ko #[.slice (some ⟨g, 0, none⟩) (acc.length + 1) c] 27 := hBo.set 0 _
        have hO8 := own_chg_ty hO hBo (by decide) hc8
        repeat' (first | (simp (disch := omega) only [push_cast, ↓reduceIte, zA, zG, zB, zH, zI, zC, zJ, zK, zL, zD, zE, zF, zM, zN, zO, zP, zQ, reduceCtorEq, not_true_eq_false, not_false_eq_true, g1, h18, hcell, hfz]) | (first | refine iE ?_ ?_ | refine iD ?_ ?_ | refine iQ ?_ ?_ | refine iV ?_ ?_) <;> intro _ | refine And.intro (by omega) ?_ | refine drawn_q ?_ | fail)
        generalize w2.setCell ⟨ko, 0, none⟩ (.slice (some ⟨g, 0, none⟩) (acc.length + 1) c) = w8 at *
        refine ⟨⟨rfl, g2, g3⟩, .inr ⟨q0, q1, q2, q3, q4, h15, h16, Chg.later hl hc8 (by intro j hj; rw [List.mem_singleton.1 hj]; exact hko), hB.chg hc8 (by simpa using n1), hw.chg hc8 (by simpa using n2), g, c, hgk, ?_, hO8, h19, hBo8⟩⟩
        first | exact h18 | rfl
    | n + 8, hoj => exact absurd hoj (by simp [r125_2])
  · intro D σ1 w2 hI hall
    obtain ⟨⟨g1, g2, g3⟩, hI⟩ := hI
    have hall : ∀ j, j < 8 → D j = true := hall
    rcases hI with ⟨d4, _⟩ | ⟨q0, q1, q2, q3, q4, h15, h16, hl, hB, hw, g, c, hgk, h18, hO, h19, hBo⟩
    · rw [hall 4 (by decide)] at d4; cases d4
    · rw [hall 6 (by decide)] at hO
      rw [hall 7 (by decide)] at hBo
      exact hK σ1 w2 g2 g3 hB ⟨hl, hko, hkw, ⟨_, hBo, hO⟩, hw⟩
set_option maxHeartbeats 4000000 in
theorem walk_c {w0 : World} {ko kw : Nat} : ∀ (f : FT) (acc : List FT) (w : World), f.Ok w0 → WSt w0 ko kw w acc → acc.length + f.cnt ≤ 100000000 → FnC Tryz.prog 125 #[.agg (ftC f).toArray, pt ko, pt kw] w fun _ w' => WSt w0 ko kw w' (acc ++ f.conds) := by
  intro f
  induction f using FT.ind with
  | h f ih =>
  intro acc w hf hW hcn
  obtain ⟨l0, hko, hkw, ⟨ov, Bo, ho⟩, Bw⟩ := hW
  obtain ⟨oo, oc, rfl, _⟩ := RecS.slice (OwnR.s ho)
  obtain ⟨h1, h2, h3, h4, h5⟩ := FT.ok_iff.1 hf
  obtain ⟨o, c, hkv, hc1, hc2⟩ := RecS.slice h4
  refine enter125 _ _ _ ?_
  unfold B125
  have eca : (Value.agg (ftC f).toArray).cells = (ftC f).toArray := rfl
  obtain ⟨l1, s1, B1⟩ := ftBox w f
  have hbig : ∀ k, (Value.slice oo acc.length oc).ownBlock = some k → k < w.heap.size := fun k hk => (World.ownsRow.lt ho k hk).2
  repeat' (first | (simp (disch := omega) only [push_cast, ↓reduceIte, zA, zG, zB, zH, zI, zC, zJ, zK, zL, zD, zE, zF, zM, zN, zO, zP, zQ, reduceCtorEq, not_true_eq_false, not_false_eq_true, eca]) | (first | refine iE ?_ ?_ | refine iD ?_ ?_ | refine iQ ?_ ?_ | refine iV ?_ ?_) <;> intro _ | refine And.intro (by omega) ?_ | fail)
  have Bo := Bo.alloc (.cells (ftC f).toArray 29)
  have Bw := Bw.alloc (.cells (ftC f).toArray 29)
  have ho := ho.alloc (.cells (ftC f).toArray 29)
  generalize w.alloc (.cells (ftC f).toArray 29) = w1 at *
  generalize hkf : w.heap.size = kf at *
  obtain ⟨a0, a1, a2, a3⟩ := ftAt B1
  have l01 := l0.trans l1
  -- the loop over the kids
  have loop : ∀ (σ1 : Env) (w2 : World) (acc2 : List FT), σ1 2 = pt kw → σ1 21 = f.kv → σ1 22 = .int .i64 (f.kids.length : Int) → σ1 23 = .int .i64 0 → WSt w0 ko kw w2 acc2 → acc2.length + (f.kids.map FT.cnt).sum ≤ 100000000 → acc2 ++ f.kids.flatMap FT.conds = acc ++ f.conds →
      vc Tryz.prog (VC.loop ((VC.region r125_4).seq ((VC.cond (Operand.tmp 24) VC.skip (VC.exit 0)).seq ((VC.block 1 ((VC.region r125_5).seq (VC.region r125_6))).seq (VC.region r125_7))))) (inBlk 0 (retK Tryz.prog #[] fun _ w' => WSt w0 ko kw w' (acc ++ f.conds))) [] σ1 w2 := by
    intro σ1 w2 acc2 e2 e21 e22 e23 hW2 hcn2 hac
    have hkc := FT.cnt_kids f
    refine vc_loop W125_0 (fun i : Nat => [(23, .int .i64 (i : Int))]) (fun i w' => i ≤ f.kids.length ∧ WSt w0 ko kw w' (acc2 ++ (f.kids.take i).flatMap FT.conds)) (fun i => f.kids.length - i) 0 (by decide) ?_ ?_ ?_
    · simp (disch := omega) only [push_cast, ↓reduceIte, zA, zG, zB, zH, zI, zC, zJ, zK, zL, zD, zE, zF, zM, zN, zO, zP, zQ, reduceCtorEq, not_true_eq_false, not_false_eq_true, e23]
      try rfl
    · exact ⟨Nat.zero_le _, by simpa using hW2⟩
    rintro i uu w3 ⟨hi, hW3⟩
    by_cases hik : i < f.kids.length
    · have hd2 : decide ((i : Int) < (f.kids.length : Int)) = true := decide_eq_true (by omega)
      have h4' := h4
      rw [hkv] at h4' e21
      obtain ⟨a, rfl, fa⟩ := RecS.at ftC_len (h4'.later hW3.l) hik
      have hk := h5 _ (List.getElem_mem hik)
      have hb := hW3.fn.cell 0
      have hstep : (f.kids.take (i + 1)).flatMap FT.conds = (f.kids.take i).flatMap FT.conds ++ (f.kids[i]).conds := by
        rw [List.take_succ_eq_append_getElem hik, List.flatMap_append]; simp
      have hlen : ((f.kids.take i).flatMap FT.conds).length + (f.kids[i]).cnt ≤ (f.kids.map FT.cnt).sum := by
        have e : f.kids = f.kids.take i ++ f.kids[i] :: f.kids.drop (i + 1) := by rw [List.getElem_cons_drop, List.take_append_drop]
        have e3 : (f.kids.map FT.cnt).sum = ((f.kids.take i).map FT.cnt).sum + ((f.kids[i]).cnt + ((f.kids.drop (i + 1)).map FT.cnt).sum) := by
          rw [← List.sum_cons, ← List.map_cons, ← List.sum_append, ← List.map_append, ← e]
        have aux : ∀ l : List FT, (l.flatMap FT.conds).length ≤ (l.map FT.cnt).sum := by
          intro l
          induction l with
          | nil => simp
          | cons k l ih => rw [List.flatMap_cons, List.length_append, List.map_cons, List.sum_cons]; have := FT.conds_cnt k; omega
        have := aux (f.kids.take i)
        omega
      have hkm := List.getElem_mem hik
      generalize f.kids[i] = kid at *
      repeat' (first | (simp (disch := omega) only [push_cast, ↓reduceIte, zA, zG, zB, zH, zI, zC, zJ, zK, zL, zD, zE, zF, zM, zN, zO, zP, zQ, reduceCtorEq, not_true_eq_false, not_false_eq_true, e2, e21, e22, hd2, fa, addr_add_eq, Nat.zero_add]) | (first | refine iE ?_ ?_ | refine iD ?_ ?_ | refine iQ ?_ ?_ | refine iV ?_ ?_) <;> intro _ | refine And.intro (by omega) ?_ | refine drawn_q ?_ | fail)
      refine vStore_new rfl rfl (fun u hu => ftC_one hk u (by simpa using hu)) ?_
      have l3 := later_alloc w3 (.cells (ftC kid).toArray 29)
      have B3 := Blk.new w3 (ftC kid).toArray 29
      have hW4 : WSt w0 ko kw (w3.alloc (.cells (ftC kid).toArray 29)) (acc2 ++ (f.kids.take i).flatMap FT.conds) := by
        obtain ⟨q1, q2, q3, ⟨x, q4, q5⟩, q6⟩ := hW3
        exact ⟨q1.trans l3, q2, q3, ⟨x, q4.alloc _, q5.alloc _⟩, q6.alloc _⟩
      generalize w3.alloc (.cells (ftC kid).toArray 29) = w4 at *
      generalize w3.heap.size = k3 at *
      have f4 : cellsAt w4 ⟨k3, 0, none⟩ 4 = some (ftC kid) := Blk.cellsAt (l := ftC kid) B3
      have hb : w4.cell? ⟨kw, 0, none⟩ = some (.func (.func 125) #[] #[pt ko, pt kw]) := hW4.fn.cell 0
      repeat' (first | (simp (disch := omega) only [push_cast, ↓reduceIte, zA, zG, zB, zH, zI, zC, zJ, zK, zL, zD, zE, zF, zM, zN, zO, zP, zQ, reduceCtorEq, not_true_eq_false, not_false_eq_true, e2, f4, hb, addr_add_eq, Nat.zero_add]) | (first | refine iE ?_ ?_ | refine iD ?_ ?_ | refine iQ ?_ ?_ | refine iV ?_ ?_) <;> intro _ | refine And.intro (by omega) ?_ | refine drawn_q ?_ | fail)
      refine (ih kid hkm (acc2 ++ (f.kids.take i).flatMap FT.conds) w4 hk hW4 (by rw [List.length_append]; omega)).mono ?_
      intro v5 w5 hW5
      repeat' (first | (simp (disch := omega) only [push_cast, ↓reduceIte, zA, zG, zB, zH, zI, zC, zJ, zK, zL, zD, zE, zF, zM, zN, zO, zP, zQ, reduceCtorEq, not_true_eq_false, not_false_eq_true]) | (first | refine iE ?_ ?_ | refine iD ?_ ?_ | refine iQ ?_ ?_ | refine iV ?_ ?_) <;> intro _ | refine And.intro (by omega) ?_ | refine drawn_q ?_ | fail)
      refine ⟨rfl, i + 1, by simp (disch := omega) only [push_cast, ↓reduceIte, zA, zG, zB, zH, zI, zC, zJ, zK, zL, zD, zE, zF, zM, zN, zO, zP, zQ, reduceCtorEq, not_true_eq_false, not_false_eq_true], ⟨by omega, ?_⟩, by dsimp only; omega⟩
      rw [hstep, ← List.append_assoc]
      exact hW5
    · have hdm : i = f.kids.length := by omega
      subst hdm
      have hd2 : decide (((f.kids.length : Nat) : Int) < (f.kids.length : Int)) = false := decide_eq_false (by omega)
      rw [List.take_length, hac] at hW3
      repeat' (first | (simp (disch := omega) only [push_cast, ↓reduceIte, zA, zG, zB, zH, zI, zC, zJ, zK, zL, zD, zE, zF, zM, zN, zO, zP, zQ, reduceCtorEq, not_true_eq_false, not_false_eq_true, e2, e21, e22, hd2]) | (first | refine iE ?_ ?_ | refine iD ?_ ?_ | refine iQ ?_ ?_ | refine iV ?_ ?_) <;> intro _ | refine And.intro (by omega) ?_ | refine drawn_q ?_ | fail)
      all_goals first | exact hW3 | trace_state
  have hkc := FT.cnt_kids f
  by_cases hop : f.op = 1 ∨ f.op = 2
  · have hcd : acc ++ [f] ++ f.kids.flatMap FT.conds = acc ++ f.conds := by rw [FT.conds_is, if_pos hop, List.append_assoc]
    have hkl : kf < w1.heap.size := by omega
    have hcl : acc.length ≤ 100000000 := by omega
    have cont : ∀ (σ1 : Env) (w2 : World), σ1 2 = pt kw → σ1 3 = pt kf → Blk w2 kf (ftC f).toArray 29 → WSt w0 ko kw w2 (acc ++ [f]) →
        vc Tryz.prog ((VC.region r125_3).seq (VC.block 0 (VC.loop ((VC.region r125_4).seq ((VC.cond (Operand.tmp 24) VC.skip (VC.exit 0)).seq ((VC.block 1 ((VC.region r125_5).seq (VC.region r125_6))).seq (VC.region r125_7))))))) (retK Tryz.prog #[] fun _ w' => WSt w0 ko kw w' (acc ++ f.conds)) [] σ1 w2 := by
      intro σ1 w2 g2 g3 hB hW
      obtain ⟨_, _, _, b3⟩ := ftAt hB
      rw [hkv] at b3
      repeat' (first | (simp (disch := omega) only [push_cast, ↓reduceIte, zA, zG, zB, zH, zI, zC, zJ, zK, zL, zD, zE, zF, zM, zN, zO, zP, zQ, reduceCtorEq, not_true_eq_false, not_false_eq_true, g3, b3, addr_add_eq, Nat.zero_add]) | (first | refine iE ?_ ?_ | refine iD ?_ ?_ | refine iQ ?_ ?_ | refine iV ?_ ?_) <;> intro _ | refine And.intro (by omega) ?_ | refine drawn_q ?_ | fail)
      refine loop _ _ (acc ++ [f]) (by simp (disch := omega) only [push_cast, ↓reduceIte, zA, zG, zB, zH, zI, zC, zJ, zK, zL, zD, zE, zF, zM, zN, zO, zP, zQ, reduceCtorEq, not_true_eq_false, not_false_eq_true, g2]) (by simp (disch := omega) only [push_cast, ↓reduceIte, zA, zG, zB, zH, zI, zC, zJ, zK, zL, zD, zE, zF, zM, zN, zO, zP, zQ, reduceCtorEq, not_true_eq_false, not_false_eq_true, hkv]) (by simp (disch := omega) only [push_cast, ↓reduceIte, zA, zG, zB, zH, zI, zC, zJ, zK, zL, zD, zE, zF, zM, zN, zO, zP, zQ, reduceCtorEq, not_true_eq_false, not_false_eq_true]) (by simp (disch := omega) only [push_cast, ↓reduceIte, zA, zG, zB, zH, zI, zC, zJ, zK, zL, zD, zE, zF, zM, zN, zO, zP, zQ, reduceCtorEq, not_true_eq_false, not_false_eq_true]) hW (by rw [List.length_append, List.length_singleton]; omega) hcd
    rcases hop with e1 | e1
    · have d1 : decide (f.op = 1) = true := decide_eq_true e1
      repeat' (first | (simp (disch := omega) only [push_cast, ↓reduceIte, zA, zG, zB, zH, zI, zC, zJ, zK, zL, zD, zE, zF, zM, zN, zO, zP, zQ, reduceCtorEq, not_true_eq_false, not_false_eq_true, a0, d1, addr_add_eq, Nat.zero_add]) | (first | refine iE ?_ ?_ | refine iD ?_ ?_ | refine iQ ?_ ?_ | refine iV ?_ ?_) <;> intro _ | refine And.intro (by omega) ?_ | refine drawn_q ?_ | fail)
      exact Or.inr (reg_c rfl rfl rfl l01 hf hko hkw Bo ho Bw B1 hbig hkl hcl cont)
    · have d1 : decide (f.op = 1) = false := decide_eq_false (by omega)
      have d2 : decide (f.op = 2) = true := decide_eq_true e1
      repeat' (first | (simp (disch := omega) only [push_cast, ↓reduceIte, zA, zG, zB, zH, zI, zC, zJ, zK, zL, zD, zE, zF, zM, zN, zO, zP, zQ, reduceCtorEq, not_true_eq_false, not_false_eq_true, a0, d1, d2, addr_add_eq, Nat.zero_add]) | (first | refine iE ?_ ?_ | refine iD ?_ ?_ | refine iQ ?_ ?_ | refine iV ?_ ?_) <;> intro _ | refine And.intro (by omega) ?_ | refine drawn_q ?_ | fail)
      exact Or.inr (reg_c rfl rfl rfl l01 hf hko hkw Bo ho Bw B1 hbig hkl hcl cont)
  · have hcd : acc ++ f.kids.flatMap FT.conds = acc ++ f.conds := by rw [FT.conds_is, if_neg hop, List.nil_append]
    have d1 : decide (f.op = 1) = false := decide_eq_false (by omega)
    have d2 : decide (f.op = 2) = false := decide_eq_false (by omega)
    rw [hkv] at a3
    repeat' (first | (simp (disch := omega) only [push_cast, ↓reduceIte, zA, zG, zB, zH, zI, zC, zJ, zK, zL, zD, zE, zF, zM, zN, zO, zP, zQ, reduceCtorEq, not_true_eq_false, not_false_eq_true, a0, a3, d1, d2, addr_add_eq, Nat.zero_add]) | (first | refine iE ?_ ?_ | refine iD ?_ ?_ | refine iQ ?_ ?_ | refine iV ?_ ?_) <;> intro _ | refine And.intro (by omega) ?_ | refine drawn_q ?_ | fail)
    exact loop _ _ acc (by simp (disch := omega) only [push_cast, ↓reduceIte, zA, zG, zB, zH, zI, zC, zJ, zK, zL, zD, zE, zF, zM, zN, zO, zP, zQ, reduceCtorEq, not_true_eq_false, not_false_eq_true]) (by simp (disch := omega) only [push_cast, ↓reduceIte, zA, zG, zB, zH, zI, zC, zJ, zK, zL, zD, zE, zF, zM, zN, zO, zP, zQ, reduceCtorEq, not_true_eq_false, not_false_eq_true, hkv]) (by simp (disch := omega) only [push_cast, ↓reduceIte, zA, zG, zB, zH, zI, zC, zJ, zK, zL, zD, zE, zF, zM, zN, zO, zP, zQ, reduceCtorEq, not_true_eq_false, not_false_eq_true]) (by simp (disch := omega) only [push_cast, ↓reduceIte, zA, zG, zB, zH, zI, zC, zJ, zK, zL, zD, zE, zF, zM, zN, zO, zP, zQ, reduceCtorEq, not_true_eq_false, not_false_eq_true]) ⟨l01, hko, hkw, ⟨_, Bo, ho⟩, Bw⟩ (by omega) hcd
end Go.Proofs.YtnofalhkapmcnaaGreat
end
