/- ZigBack holds for every input: numbers and texts that are put are read, and that was all; a number that is read of any bytes has just the bytes that it was read from. -/
import Derived.Test.YtgomibebepmlhaaRows
import Derived.Test.YtgomibebepmlhaaCodesL
import Derived.Test.YtgomibebepmlhaaActs
import Derived.Test.YtgomibebepmlhaaZigP3
set_option linter.unusedSimpArgs false
namespace Go.Proofs.Ytgomibebepmlhaa.zigBack
open Go.Vc Go.Zig Go.ChangeShapes Go.WideShapes Go.ChangeAt Go.RowKit

theorem some_of_lt {w : World} {s n c m : Nat} {o : Option Addr} {xs : List Value} (h : SlN w s (.slice o n c) m xs) {i : Nat} (hi : i < n) : ∃ a, o = some a := by
  cases o with
  | none => have := h.len.2.2.2.2 rfl; omega
  | some a => exact ⟨a, rfl⟩
theorem step_one (a : Step) : ∀ u ∈ a.cells.toArray.toList, u.oneCell' = true := by
  intro u hu
  simp only [Step.cells, List.mem_cons, List.not_mem_nil, or_false] at hu
  rcases hu with rfl | rfl | rfl | rfl | rfl <;> rfl
theorem own_of {w : World} {B : Nat} {e : TypeId} {v : Value} {a b : List UInt8} {n : Nat} (h : w.ownsRow B e 1 v n ((a ++ b).map u8v)) : OwnB w B e v (a ++ b) := by
  have := own_n h
  unfold OwnB
  rw [this] at h
  simpa using h
/-- What an act is written as. -/
def enc (a : Step) : List UInt8 := if a.s.size ≤ 400 then zi a.n ++ (zi a.s.size ++ a.s.data.toList) else []
def encs (acts : List Step) : List UInt8 := acts.flatMap enc
theorem encs_take {acts : List Step} {i : Nat} (h : i < acts.length) : encs (acts.take (i + 1)) = encs (acts.take i) ++ enc acts[i] := by
  unfold encs
  rw [List.take_add_one, List.getElem?_eq_getElem h, List.flatMap_append]
  simp
theorem encs_drop {acts : List Step} {i n : Nat} (h : i < n) (hn : n ≤ acts.length) : encs ((acts.take n).drop i) = enc (acts[i]'(by omega)) ++ encs ((acts.take n).drop (i + 1)) := by
  have hi : i < (acts.take n).length := by simp; omega
  rw [List.drop_eq_getElem_cons hi]
  unfold encs
  simp
theorem rI_enc {n : Int} (hn : I64 n) (r : List UInt8) : rI (zi n ++ r) n n = (n, 0, r) := by
  have hf := foldI_u64 hn
  unfold U64 at hf
  unfold rI zi
  rw [num_zu (by omega)]
  have e : ((foldI n).toNat : Int) = foldI n := by omega
  simp only [e, unfold_fold]
  rw [if_neg (by omega), List.drop_left]
theorem rT_enc (s : ByteArray) (hs : s.size ≤ 400) (r : List UInt8) : rT (zi s.size ++ (s.data.toList ++ r)) s.size = (s, 0, r) := by
  have hn : I64 (s.size : Int) := by unfold I64; omega
  have hf := foldI_u64 hn
  unfold U64 at hf
  have hls : s.data.toList.length = s.size := rfl
  unfold rT zi
  rw [num_zu (by omega)]
  have e : ((foldI (s.size : Int)).toNat : Int) = foldI (s.size : Int) := by omega
  simp only [e, unfold_fold, List.length_append, hls]
  rw [if_neg (by omega), Int.toNat_natCast, List.drop_left, ← List.drop_drop, List.drop_left, List.take_left' hls, List.drop_left' hls, strOf_data]
theorem rI_all {l : List UInt8} : (rI l (-9223372036854775808) 9223372036854775807 = (0, 11, l)) ∨ ∃ (v : Int) (n : Nat), rI l (-9223372036854775808) 9223372036854775807 = (v, 0, l.drop n) ∧ I64 v ∧ n ≤ l.length ∧ zi v = l.take n := by
  unfold rI
  rcases num_next (l := l) with ⟨e1, e2⟩ | ⟨u, m, e1, e2, e3, e4, e5⟩
  · left; simp [e1]
  · right
    have hu := unfoldI_i64 e3
    simp only [e1]
    have hu' := hu
    unfold I64 at hu'
    refine ⟨unfoldI u, m, by rw [if_neg (by omega)], hu, e5, ?_⟩
    unfold zi
    rw [fold_unfold e3.1]
    exact num_canon e1
set_option maxRecDepth 100000 in
theorem law_c (v b : Value) (acts : List Step) (lb : List UInt8) (w : World) (hs : SlN w 5 v acts.length (acts.map Step.cells).flatten) (hok : ∀ a ∈ acts, a.ok) (hbb : Sl w b (lb.map u8v)) :
    FnC Try.prog 10 #[v, b] w fun v w' => v = .bool true ∧ Later w w' := by
  obtain ⟨os, cs, rfl, g1, g2, g3, g4, g5⟩ := hs.open
  obtain ⟨o2, c2, rfl, k1, k2, k3, k4⟩ := hbb.open
  simp only [List.length_map] at hbb k1 ⊢
  unfold maxLen at g2 k2
  refine enter10 _ _ ?_
  unfold B10
  repeat' (first | (simp (disch := omega) only [push_cast, ↓reduceIte, Nat.reduceEqDiff, Int.reduceToNat, Nat.reducePow, Int.reducePow, Int.reduceNeg, Nat.reduceMul, Int.reduceMul, Int.reduceAdd, Int.reduceSub, Nat.reduceAdd, Nat.reduceSub, Nat.reduceLeDiff, Int.reduceLT, Int.reduceLE, Int.reduceEq, Int.reduceMod, Int.reduceDiv, reduceCtorEq, not_true_eq_false, not_false_eq_true]) | refine vIfE_of (fun _ => ?_) (fun _ => ?_) | refine vIfD_of (fun _ => ?_) (fun _ => ?_) | refine vIfQ_of (fun _ => ?_) (fun _ => ?_) | refine vIfV_of (fun _ => ?_) (fun _ => ?_) | refine And.intro (by omega) ?_ | fail)
  refine vc_loop W10_0 (fun p : Nat × Value × Nat => [(7, .int .i64 (p.1 : Int)), (5, p.2.1), (6, .int .i64 (p.2.2 : Int))])
    (fun p w' => p.1 ≤ min acts.length 60 ∧ Later w w' ∧ OwnB w' w.heap.size 5 p.2.1 (encs (acts.take p.1)) ∧ p.2.2 ≤ p.1 ∧ encs (acts.take p.2.2) = encs (acts.take p.1) ∧ (encs (acts.take p.1)).length ≤ 1000 * p.1) (fun p => 60 - p.1) (0, .slice none 0 0, 0) (by decide) ?_ ?_ ?_
  · simp (disch := omega) only [push_cast, ↓reduceIte, Nat.reduceEqDiff, Int.reduceToNat, Nat.reducePow, Int.reducePow, Int.reduceNeg, Nat.reduceMul, Int.reduceMul, Int.reduceAdd, Int.reduceSub, Nat.reduceAdd, Nat.reduceSub, Nat.reduceLeDiff, Int.reduceLT, Int.reduceLE, Int.reduceEq, Int.reduceMod, Int.reduceDiv, reduceCtorEq, not_true_eq_false, not_false_eq_true]
  · exact ⟨by omega, Later.refl _, own_nil _ _ _ _, by simp, rfl, by simp [encs]⟩
  rintro ⟨i, bv, m⟩ uu w3 ⟨hi, hl3, hb, hm, hem, hlen⟩
  dsimp only at hi hb hm hem hlen
  obtain ⟨ob, cb, rfl⟩ := hb.slice
  repeat' (first | (simp (disch := omega) only [push_cast, ↓reduceIte, Nat.reduceEqDiff, Int.reduceToNat, Nat.reducePow, Int.reducePow, Int.reduceNeg, Nat.reduceMul, Int.reduceMul, Int.reduceAdd, Int.reduceSub, Nat.reduceAdd, Nat.reduceSub, Nat.reduceLeDiff, Int.reduceLT, Int.reduceLE, Int.reduceEq, Int.reduceMod, Int.reduceDiv, reduceCtorEq, not_true_eq_false, not_false_eq_true]) | refine vIfE_of (fun _ => ?_) (fun _ => ?_) | refine vIfD_of (fun _ => ?_) (fun _ => ?_) | refine vIfQ_of (fun _ => ?_) (fun _ => ?_) | refine vIfV_of (fun _ => ?_) (fun _ => ?_) | refine And.intro (by omega) ?_ | fail)
  · have hi' : i < acts.length := by omega
    obtain ⟨aa, rfl⟩ := some_of_lt hs hi'
    have hact : (acts.map Step.cells)[i]? = some acts[i].cells := by simp [hi']
    have hc4 : ∀ w', Later w3 w' → w'.cell? ((aa.add (i * 5)).add 4) = some (.string acts[i].s) := fun w' h => ((hs.later hl3).later h).rowCell (steps_len acts) hact rfl
    have hc1 : ∀ w', Later w3 w' → w'.cell? ((aa.add (i * 5)).add 1) = some (.int .i64 acts[i].n) := fun w' h => ((hs.later hl3).later h).rowCell (steps_len acts) hact rfl
    obtain ⟨q0, q1, q2, q3, q4⟩ := hok acts[i] (List.getElem_mem _)
    have htake := encs_take hi'
    generalize acts[i] = a at *
    have e4 := hc4 w3 (Later.refl _)
    have e1 := hc1 w3 (Later.refl _)
    repeat' (first | (simp (disch := omega) only [push_cast, ↓reduceIte, Nat.reduceEqDiff, Int.reduceToNat, Nat.reducePow, Int.reducePow, Int.reduceNeg, Nat.reduceMul, Int.reduceMul, Int.reduceAdd, Int.reduceSub, Nat.reduceAdd, Nat.reduceSub, Nat.reduceLeDiff, Int.reduceLT, Int.reduceLE, Int.reduceEq, Int.reduceMod, Int.reduceDiv, reduceCtorEq, not_true_eq_false, not_false_eq_true, e4, e1]) | refine vIfE_of (fun _ => ?_) (fun _ => ?_) | refine vIfD_of (fun _ => ?_) (fun _ => ?_) | refine vIfQ_of (fun _ => ?_) (fun _ => ?_) | refine vIfV_of (fun _ => ?_) (fun _ => ?_) | refine And.intro (by omega) ?_ | fail)
    · have hn := q1
      have zn := zi_len hn
      have hsz : a.s.size ≤ 400 := by omega
      have hs64 : I64 (a.s.size : Int) := by unfold I64; omega
      have zs := zi_len hs64
      have hls : a.s.data.toList.length = a.s.size := rfl
      have henc : enc a = zi a.n ++ (zi a.s.size ++ a.s.data.toList) := by unfold enc; rw [if_pos hsz]
      have hll : (encs (acts.take (i + 1))).length ≤ 1000 * (i + 1) := by rw [htake, henc, List.length_append, List.length_append, List.length_append, hls]; omega
      refine drawn_n ?_
      repeat' (first | (simp (disch := omega) only [push_cast, ↓reduceIte, Nat.reduceEqDiff, Int.reduceToNat, Nat.reducePow, Int.reducePow, Int.reduceNeg, Nat.reduceMul, Int.reduceMul, Int.reduceAdd, Int.reduceSub, Nat.reduceAdd, Nat.reduceSub, Nat.reduceLeDiff, Int.reduceLT, Int.reduceLE, Int.reduceEq, Int.reduceMod, Int.reduceDiv, reduceCtorEq, not_true_eq_false, not_false_eq_true, e4, e1]) | refine vIfE_of (fun _ => ?_) (fun _ => ?_) | refine vIfD_of (fun _ => ?_) (fun _ => ?_) | refine vIfQ_of (fun _ => ?_) (fun _ => ?_) | refine vIfV_of (fun _ => ?_) (fun _ => ?_) | refine And.intro (by omega) ?_ | fail)
      refine NFn.of hb34 (fun v w' => OwnB w' w3.heap.size 5 v (encs (acts.take i) ++ zi a.n)) (stb_own _ _ _ _) (fun w' hl => (zInt_c _ (encs (acts.take i)) a.n w' hn (hb.later hl).sl (by omega)).mono fun v w'' h => ⟨(own_of h.1).base hl.size, h.2⟩) ?_
      repeat' (first | (simp (disch := omega) only [push_cast, ↓reduceIte, Nat.reduceEqDiff, Int.reduceToNat, Nat.reducePow, Int.reducePow, Int.reduceNeg, Nat.reduceMul, Int.reduceMul, Int.reduceAdd, Int.reduceSub, Nat.reduceAdd, Nat.reduceSub, Nat.reduceLeDiff, Int.reduceLT, Int.reduceLE, Int.reduceEq, Int.reduceMod, Int.reduceDiv, reduceCtorEq, not_true_eq_false, not_false_eq_true, e4, e1]) | refine vIfE_of (fun _ => ?_) (fun _ => ?_) | refine vIfD_of (fun _ => ?_) (fun _ => ?_) | refine vIfQ_of (fun _ => ?_) (fun _ => ?_) | refine vIfV_of (fun _ => ?_) (fun _ => ?_) | refine And.intro (by omega) ?_ | fail)
      refine nR_call hb35 (fun v w' => OwnB w' w3.heap.size 5 v (encs (acts.take (i + 1)))) (stb_own _ _ _ _) ?_ ?_
      · intro σ' w' hl hp
        have p1 := psis_V hp (t := 42) (by simp) rfl
        have p2 : σ' 47 = .string a.s := (psis_v hp (t := 47) (by simp) rfl).trans (by simp (disch := omega) only [push_cast, ↓reduceIte, Nat.reduceEqDiff, Int.reduceToNat, Nat.reducePow, Int.reducePow, Int.reduceNeg, Nat.reduceMul, Int.reduceMul, Int.reduceAdd, Int.reduceSub, Nat.reduceAdd, Nat.reduceSub, Nat.reduceLeDiff, Int.reduceLT, Int.reduceLE, Int.reduceEq, Int.reduceMod, Int.reduceDiv, reduceCtorEq, not_true_eq_false, not_false_eq_true])
        have ea : (#[Operand.tmp 42, Operand.tmp 47] : Array Operand).map (ev σ') = #[σ' 42, σ' 47] := by simp [ev]
        rw [ea, p2]
        refine (zText_c _ (encs (acts.take i) ++ zi a.n) a.s w' p1.sl (by rw [List.length_append]; omega)).mono ?_
        rintro u w'' ⟨hu, hl''⟩
        rw [htake, henc]
        simp only [List.append_assoc] at hu
        exact ⟨hu.base hl.size, hl''⟩
      repeat' (first | (simp (disch := omega) only [push_cast, ↓reduceIte, Nat.reduceEqDiff, Int.reduceToNat, Nat.reducePow, Int.reducePow, Int.reduceNeg, Nat.reduceMul, Int.reduceMul, Int.reduceAdd, Int.reduceSub, Nat.reduceAdd, Nat.reduceSub, Nat.reduceLeDiff, Int.reduceLT, Int.reduceLE, Int.reduceEq, Int.reduceMod, Int.reduceDiv, reduceCtorEq, not_true_eq_false, not_false_eq_true]) | refine vIfE_of (fun _ => ?_) (fun _ => ?_) | refine vIfD_of (fun _ => ?_) (fun _ => ?_) | refine vIfQ_of (fun _ => ?_) (fun _ => ?_) | refine vIfV_of (fun _ => ?_) (fun _ => ?_) | refine And.intro (by omega) ?_ | fail)
      refine nR_assign (t := 48) (by simp) rfl (stb_own _ _ _ _) ?_
      repeat' (first | (simp (disch := omega) only [push_cast, ↓reduceIte, Nat.reduceEqDiff, Int.reduceToNat, Nat.reducePow, Int.reducePow, Int.reduceNeg, Nat.reduceMul, Int.reduceMul, Int.reduceAdd, Int.reduceSub, Nat.reduceAdd, Nat.reduceSub, Nat.reduceLeDiff, Int.reduceLT, Int.reduceLE, Int.reduceEq, Int.reduceMod, Int.reduceDiv, reduceCtorEq, not_true_eq_false, not_false_eq_true]) | refine vIfE_of (fun _ => ?_) (fun _ => ?_) | refine vIfD_of (fun _ => ?_) (fun _ => ?_) | refine vIfQ_of (fun _ => ?_) (fun _ => ?_) | refine vIfV_of (fun _ => ?_) (fun _ => ?_) | refine And.intro (by omega) ?_ | fail)
      intro w4 hl4 x5 hx5 x48 _ x42 _
      repeat' (first | (simp (disch := omega) only [push_cast, ↓reduceIte, Nat.reduceEqDiff, Int.reduceToNat, Nat.reducePow, Int.reducePow, Int.reduceNeg, Nat.reduceMul, Int.reduceMul, Int.reduceAdd, Int.reduceSub, Nat.reduceAdd, Nat.reduceSub, Nat.reduceLeDiff, Int.reduceLT, Int.reduceLE, Int.reduceEq, Int.reduceMod, Int.reduceDiv, reduceCtorEq, not_true_eq_false, not_false_eq_true]) | refine vIfE_of (fun _ => ?_) (fun _ => ?_) | refine vIfD_of (fun _ => ?_) (fun _ => ?_) | refine vIfQ_of (fun _ => ?_) (fun _ => ?_) | refine vIfV_of (fun _ => ?_) (fun _ => ?_) | refine And.intro (by omega) ?_ | fail)
      refine ⟨rfl, (i + 1, x5, i + 1), by simp (disch := omega) only [push_cast, ↓reduceIte, Nat.reduceEqDiff, Int.reduceToNat, Nat.reducePow, Int.reducePow, Int.reduceNeg, Nat.reduceMul, Int.reduceMul, Int.reduceAdd, Int.reduceSub, Nat.reduceAdd, Nat.reduceSub, Nat.reduceLeDiff, Int.reduceLT, Int.reduceLE, Int.reduceEq, Int.reduceMod, Int.reduceDiv, reduceCtorEq, not_true_eq_false, not_false_eq_true], ⟨by simp; omega, hl3.trans hl4, hx5.base hl3.size, by simp, rfl, hll⟩, by simp; omega⟩
    · have henc : enc a = [] := by unfold enc; rw [if_neg (by omega)]
      rw [henc, List.append_nil] at htake
      refine ⟨rfl, (i + 1, .slice ob (encs (acts.take i)).length cb, m), by simp (disch := omega) only [push_cast, ↓reduceIte, Nat.reduceEqDiff, Int.reduceToNat, Nat.reducePow, Int.reducePow, Int.reduceNeg, Nat.reduceMul, Int.reduceMul, Int.reduceAdd, Int.reduceSub, Nat.reduceAdd, Nat.reduceSub, Nat.reduceLeDiff, Int.reduceLT, Int.reduceLE, Int.reduceEq, Int.reduceMod, Int.reduceDiv, reduceCtorEq, not_true_eq_false, not_false_eq_true], ⟨by simp; omega, hl3, by rw [htake]; exact hb, by simp; omega, by rw [htake]; exact hem, by rw [htake]; simp; omega⟩, by simp; omega⟩
  all_goals
    have hlenm : (encs (acts.take i)).length ≤ 60000 := by omega
    refine (zOpen_c _ (encs (acts.take i)) w3 hb.sl (by omega)).mono ?_
    rintro _ w4 ⟨kr, d, rfl, hR, hkr, hd, hl4⟩
    have hmlen : m ≤ acts.length := by omega
    have hR : Rd w4 kr d (encs ((acts.take m).drop 0)) := by rw [List.drop_zero, hem]; exact hR
    have hkw : w.heap.size ≤ kr := Nat.le_trans hl3.size hkr
    repeat' (first | (simp (disch := omega) only [push_cast, ↓reduceIte, Nat.reduceEqDiff, Int.reduceToNat, Nat.reducePow, Int.reducePow, Int.reduceNeg, Nat.reduceMul, Int.reduceMul, Int.reduceAdd, Int.reduceSub, Nat.reduceAdd, Nat.reduceSub, Nat.reduceLeDiff, Int.reduceLT, Int.reduceLE, Int.reduceEq, Int.reduceMod, Int.reduceDiv, reduceCtorEq, not_true_eq_false, not_false_eq_true]) | refine vIfE_of (fun _ => ?_) (fun _ => ?_) | refine vIfD_of (fun _ => ?_) (fun _ => ?_) | refine vIfQ_of (fun _ => ?_) (fun _ => ?_) | refine vIfV_of (fun _ => ?_) (fun _ => ?_) | refine And.intro (by omega) ?_ | fail)
    refine vc_loop W10_1 (fun j : Nat => [(9, .int .i64 (j : Int))])
      (fun j w' => j ≤ m ∧ Later w w' ∧ Rd w' kr d (encs ((acts.take m).drop j))) (fun j => m - j) 0 (by decide) ?_ ?_ ?_
    · simp (disch := omega) only [push_cast, ↓reduceIte, Nat.reduceEqDiff, Int.reduceToNat, Nat.reducePow, Int.reducePow, Int.reduceNeg, Nat.reduceMul, Int.reduceMul, Int.reduceAdd, Int.reduceSub, Nat.reduceAdd, Nat.reduceSub, Nat.reduceLeDiff, Int.reduceLT, Int.reduceLE, Int.reduceEq, Int.reduceMod, Int.reduceDiv, reduceCtorEq, not_true_eq_false, not_false_eq_true]
    · exact ⟨by omega, hl3.trans hl4, hR⟩
    rintro j uu2 w5 ⟨hj, hl5, hR5⟩
    repeat' (first | (simp (disch := omega) only [push_cast, ↓reduceIte, Nat.reduceEqDiff, Int.reduceToNat, Nat.reducePow, Int.reducePow, Int.reduceNeg, Nat.reduceMul, Int.reduceMul, Int.reduceAdd, Int.reduceSub, Nat.reduceAdd, Nat.reduceSub, Nat.reduceLeDiff, Int.reduceLT, Int.reduceLE, Int.reduceEq, Int.reduceMod, Int.reduceDiv, reduceCtorEq, not_true_eq_false, not_false_eq_true]) | refine vIfE_of (fun _ => ?_) (fun _ => ?_) | refine vIfD_of (fun _ => ?_) (fun _ => ?_) | refine vIfQ_of (fun _ => ?_) (fun _ => ?_) | refine vIfV_of (fun _ => ?_) (fun _ => ?_) | refine And.intro (by omega) ?_ | fail)
    · have hj' : j < acts.length := by omega
      obtain ⟨aa, rfl⟩ := some_of_lt hs hj'
      have hact : (acts.map Step.cells)[j]? = some acts[j].cells := by simp [hj']
      have hrow : cellsAt w5 (aa.add (j * 5)) 5 = some acts[j].cells := (hs.later hl5).row (steps_len acts) hact
      obtain ⟨q0, q1, q2, q3, q4⟩ := hok acts[j] (List.getElem_mem _)
      have hdrop := encs_drop (acts := acts) (i := j) (n := m) (by omega) hmlen
      generalize acts[j] = a at *
      repeat' (first | (simp (disch := omega) only [push_cast, ↓reduceIte, Nat.reduceEqDiff, Int.reduceToNat, Nat.reducePow, Int.reducePow, Int.reduceNeg, Nat.reduceMul, Int.reduceMul, Int.reduceAdd, Int.reduceSub, Nat.reduceAdd, Nat.reduceSub, Nat.reduceLeDiff, Int.reduceLT, Int.reduceLE, Int.reduceEq, Int.reduceMod, Int.reduceDiv, reduceCtorEq, not_true_eq_false, not_false_eq_true, hrow]) | refine vIfE_of (fun _ => ?_) (fun _ => ?_) | refine vIfD_of (fun _ => ?_) (fun _ => ?_) | refine vIfQ_of (fun _ => ?_) (fun _ => ?_) | refine vIfV_of (fun _ => ?_) (fun _ => ?_) | refine And.intro (by omega) ?_ | fail)
      refine vStore_new rfl rfl (step_one a) ?_
      have bA : Blk (w5.alloc (.cells a.cells.toArray 42)) w5.heap.size a.cells.toArray 42 := Blk.new _ _ _
      have hR6 := hR5.chg (Chg.of_later (ks := []) (later_alloc w5 (.cells a.cells.toArray 42))) (by simp) (by simp)
      have hl6 := hl5.alloc (.cells a.cells.toArray 42)
      have hka : kr < w5.heap.size := by obtain ⟨_, _, _, _, _, _, _, h⟩ := hR5; exact h
      generalize w5.alloc (.cells a.cells.toArray 42) = w6 at *
      generalize w5.heap.size = ka at *
      have f1 : w6.cell? ⟨ka, 1, none⟩ = some (.int .i64 a.n) := bA.cell 1
      have f4 : w6.cell? ⟨ka, 4, none⟩ = some (.string a.s) := bA.cell 4
      repeat' (first | (simp (disch := omega) only [push_cast, ↓reduceIte, Nat.reduceEqDiff, Int.reduceToNat, Nat.reducePow, Int.reducePow, Int.reduceNeg, Nat.reduceMul, Int.reduceMul, Int.reduceAdd, Int.reduceSub, Nat.reduceAdd, Nat.reduceSub, Nat.reduceLeDiff, Int.reduceLT, Int.reduceLE, Int.reduceEq, Int.reduceMod, Int.reduceDiv, reduceCtorEq, not_true_eq_false, not_false_eq_true, f1, f4, addr_add_eq, Nat.zero_add]) | refine vIfE_of (fun _ => ?_) (fun _ => ?_) | refine vIfD_of (fun _ => ?_) (fun _ => ?_) | refine vIfQ_of (fun _ => ?_) (fun _ => ?_) | refine vIfV_of (fun _ => ?_) (fun _ => ?_) | refine And.intro (by omega) ?_ | fail)
      · have henc : enc a = [] := by unfold enc; rw [if_neg (by omega)]
        rw [henc, List.nil_append] at hdrop
        refine ⟨rfl, j + 1, by simp (disch := omega) only [push_cast, ↓reduceIte, Nat.reduceEqDiff, Int.reduceToNat, Nat.reducePow, Int.reducePow, Int.reduceNeg, Nat.reduceMul, Int.reduceMul, Int.reduceAdd, Int.reduceSub, Nat.reduceAdd, Nat.reduceSub, Nat.reduceLeDiff, Int.reduceLT, Int.reduceLE, Int.reduceEq, Int.reduceMod, Int.reduceDiv, reduceCtorEq, not_true_eq_false, not_false_eq_true], ⟨by omega, hl6, by rw [← hdrop]; exact hR6⟩, by show m - (j + 1) < m - j; omega⟩
      · have hsz : a.s.size ≤ 400 := by omega
        have henc : enc a = zi a.n ++ (zi a.s.size ++ a.s.data.toList) := by unfold enc; rw [if_pos hsz]
        rw [henc, List.append_assoc, List.append_assoc] at hdrop
        rw [hdrop] at hR6
        refine (zRInt_c kr d _ a.n a.n w6 hR6).mono ?_
        rw [rI_enc q1]
        rintro _ w7 ⟨rfl, hR7, c7⟩
        have bA7 := bA.chg c7 (by simp; omega)
        have f1 : w7.cell? ⟨ka, 1, none⟩ = some (.int .i64 a.n) := bA7.cell 1
        have f4 : w7.cell? ⟨ka, 4, none⟩ = some (.string a.s) := bA7.cell 4
        have hl7 := c7.later hl6 (by simpa using hkw)
        repeat' (first | (simp (disch := omega) only [push_cast, ↓reduceIte, Nat.reduceEqDiff, Int.reduceToNat, Nat.reducePow, Int.reducePow, Int.reduceNeg, Nat.reduceMul, Int.reduceMul, Int.reduceAdd, Int.reduceSub, Nat.reduceAdd, Nat.reduceSub, Nat.reduceLeDiff, Int.reduceLT, Int.reduceLE, Int.reduceEq, Int.reduceMod, Int.reduceDiv, reduceCtorEq, not_true_eq_false, not_false_eq_true, f1, f4, addr_add_eq, Nat.zero_add]) | refine vIfE_of (fun _ => ?_) (fun _ => ?_) | refine vIfD_of (fun _ => ?_) (fun _ => ?_) | refine vIfQ_of (fun _ => ?_) (fun _ => ?_) | refine vIfV_of (fun _ => ?_) (fun _ => ?_) | refine And.intro (by omega) ?_ | fail)
        refine (zRText_c kr d _ (a.s.size : Int) w7 hR7).mono ?_
        rw [rT_enc a.s hsz]
        rintro _ w8 ⟨rfl, hR8, c8⟩
        have bA8 := bA7.chg c8 (by simp; omega)
        have f1 : w8.cell? ⟨ka, 1, none⟩ = some (.int .i64 a.n) := bA8.cell 1
        have f4 : w8.cell? ⟨ka, 4, none⟩ = some (.string a.s) := bA8.cell 4
        have hl8 := c8.later hl7 (by simpa using hkw)
        repeat' (first | (simp (disch := omega) only [push_cast, ↓reduceIte, Nat.reduceEqDiff, Int.reduceToNat, Nat.reducePow, Int.reducePow, Int.reduceNeg, Nat.reduceMul, Int.reduceMul, Int.reduceAdd, Int.reduceSub, Nat.reduceAdd, Nat.reduceSub, Nat.reduceLeDiff, Int.reduceLT, Int.reduceLE, Int.reduceEq, Int.reduceMod, Int.reduceDiv, reduceCtorEq, not_true_eq_false, not_false_eq_true, f1, f4, addr_add_eq, Nat.zero_add]) | refine vIfE_of (fun _ => ?_) (fun _ => ?_) | refine vIfD_of (fun _ => ?_) (fun _ => ?_) | refine vIfQ_of (fun _ => ?_) (fun _ => ?_) | refine vIfV_of (fun _ => ?_) (fun _ => ?_) | refine And.intro (by omega) ?_ | fail)
        refine ⟨rfl, j + 1, by simp (disch := omega) only [push_cast, ↓reduceIte, Nat.reduceEqDiff, Int.reduceToNat, Nat.reducePow, Int.reducePow, Int.reduceNeg, Nat.reduceMul, Int.reduceMul, Int.reduceAdd, Int.reduceSub, Nat.reduceAdd, Nat.reduceSub, Nat.reduceLeDiff, Int.reduceLT, Int.reduceLE, Int.reduceEq, Int.reduceMod, Int.reduceDiv, reduceCtorEq, not_true_eq_false, not_false_eq_true], ⟨by omega, hl8, hR8⟩, by show m - (j + 1) < m - j; omega⟩
    · have hjm : j = m := by omega
      subst hjm
      have hnil : encs ((acts.take j).drop j) = [] := by rw [List.drop_of_length_le (by simp; omega)]; rfl
      rw [hnil] at hR5
      refine (zRLeft_c kr d _ w5 hR5).mono ?_
      rintro _ w6 ⟨rfl, h6⟩
      obtain rfl := h6.symm
      repeat' (first | (simp (disch := omega) only [push_cast, ↓reduceIte, Nat.reduceEqDiff, Int.reduceToNat, Nat.reducePow, Int.reducePow, Int.reduceNeg, Nat.reduceMul, Int.reduceMul, Int.reduceAdd, Int.reduceSub, Nat.reduceAdd, Nat.reduceSub, Nat.reduceLeDiff, Int.reduceLT, Int.reduceLE, Int.reduceEq, Int.reduceMod, Int.reduceDiv, reduceCtorEq, not_true_eq_false, not_false_eq_true, List.length_nil]) | refine vIfE_of (fun _ => ?_) (fun _ => ?_) | refine vIfD_of (fun _ => ?_) (fun _ => ?_) | refine vIfQ_of (fun _ => ?_) (fun _ => ?_) | refine vIfV_of (fun _ => ?_) (fun _ => ?_) | refine And.intro (by omega) ?_ | fail)
      · refine (alive_c _).mono ?_
        rintro _ w6 ⟨rfl, hl6⟩
        repeat' (first | (simp (disch := omega) only [push_cast, ↓reduceIte, Nat.reduceEqDiff, Int.reduceToNat, Nat.reducePow, Int.reducePow, Int.reduceNeg, Nat.reduceMul, Int.reduceMul, Int.reduceAdd, Int.reduceSub, Nat.reduceAdd, Nat.reduceSub, Nat.reduceLeDiff, Int.reduceLT, Int.reduceLE, Int.reduceEq, Int.reduceMod, Int.reduceDiv, reduceCtorEq, not_true_eq_false, not_false_eq_true]) | refine vIfE_of (fun _ => ?_) (fun _ => ?_) | refine vIfD_of (fun _ => ?_) (fun _ => ?_) | refine vIfQ_of (fun _ => ?_) (fun _ => ?_) | refine vIfV_of (fun _ => ?_) (fun _ => ?_) | refine And.intro (by omega) ?_ | fail)
        exact hl5.trans hl6
      · have hlb : lb.length ≤ 400 := by omega
        refine (zOpen_c _ lb w5 (hbb.later hl5) (by omega)).mono ?_
        rintro _ w6 ⟨kq, dq, rfl, hQ, hkq, hdq, hl6⟩
        have hl56 := hl5.trans hl6
        have hkqw : w.heap.size ≤ kq := Nat.le_trans hl5.size hkq
        repeat' (first | (simp (disch := omega) only [push_cast, ↓reduceIte, Nat.reduceEqDiff, Int.reduceToNat, Nat.reducePow, Int.reducePow, Int.reduceNeg, Nat.reduceMul, Int.reduceMul, Int.reduceAdd, Int.reduceSub, Nat.reduceAdd, Nat.reduceSub, Nat.reduceLeDiff, Int.reduceLT, Int.reduceLE, Int.reduceEq, Int.reduceMod, Int.reduceDiv, reduceCtorEq, not_true_eq_false, not_false_eq_true]) | refine vIfE_of (fun _ => ?_) (fun _ => ?_) | refine vIfD_of (fun _ => ?_) (fun _ => ?_) | refine vIfQ_of (fun _ => ?_) (fun _ => ?_) | refine vIfV_of (fun _ => ?_) (fun _ => ?_) | refine And.intro (by omega) ?_ | fail)
        refine (zRInt_c kq dq _ _ _ w6 hQ).mono ?_
        rcases rI_all (l := lb) with e | ⟨x, n, e, hx, hn, hz⟩
        · rw [e]
          rintro _ w7 ⟨rfl, hQ7, c7⟩
          have hl7 := c7.later hl56 (by simpa using hkqw)
          repeat' (first | (simp (disch := omega) only [push_cast, ↓reduceIte, Nat.reduceEqDiff, Int.reduceToNat, Nat.reducePow, Int.reducePow, Int.reduceNeg, Nat.reduceMul, Int.reduceMul, Int.reduceAdd, Int.reduceSub, Nat.reduceAdd, Nat.reduceSub, Nat.reduceLeDiff, Int.reduceLT, Int.reduceLE, Int.reduceEq, Int.reduceMod, Int.reduceDiv, reduceCtorEq, not_true_eq_false, not_false_eq_true]) | refine vIfE_of (fun _ => ?_) (fun _ => ?_) | refine vIfD_of (fun _ => ?_) (fun _ => ?_) | refine vIfQ_of (fun _ => ?_) (fun _ => ?_) | refine vIfV_of (fun _ => ?_) (fun _ => ?_) | refine And.intro (by omega) ?_ | fail)
          refine (alive_c _).mono ?_
          rintro _ w8 ⟨rfl, hl8⟩
          repeat' (first | (simp (disch := omega) only [push_cast, ↓reduceIte, Nat.reduceEqDiff, Int.reduceToNat, Nat.reducePow, Int.reducePow, Int.reduceNeg, Nat.reduceMul, Int.reduceMul, Int.reduceAdd, Int.reduceSub, Nat.reduceAdd, Nat.reduceSub, Nat.reduceLeDiff, Int.reduceLT, Int.reduceLE, Int.reduceEq, Int.reduceMod, Int.reduceDiv, reduceCtorEq, not_true_eq_false, not_false_eq_true]) | refine vIfE_of (fun _ => ?_) (fun _ => ?_) | refine vIfD_of (fun _ => ?_) (fun _ => ?_) | refine vIfQ_of (fun _ => ?_) (fun _ => ?_) | refine vIfV_of (fun _ => ?_) (fun _ => ?_) | refine And.intro (by omega) ?_ | fail)
          refine (zRLeft_c kq dq _ w8 (hQ7.chg (Chg.of_later (ks := []) hl8) (by simp) (by simp))).mono ?_
          rintro _ w9 ⟨rfl, h9⟩
          obtain rfl := h9.symm
          repeat' (first | (simp (disch := omega) only [push_cast, ↓reduceIte, Nat.reduceEqDiff, Int.reduceToNat, Nat.reducePow, Int.reducePow, Int.reduceNeg, Nat.reduceMul, Int.reduceMul, Int.reduceAdd, Int.reduceSub, Nat.reduceAdd, Nat.reduceSub, Nat.reduceLeDiff, Int.reduceLT, Int.reduceLE, Int.reduceEq, Int.reduceMod, Int.reduceDiv, reduceCtorEq, not_true_eq_false, not_false_eq_true]) | refine vIfE_of (fun _ => ?_) (fun _ => ?_) | refine vIfD_of (fun _ => ?_) (fun _ => ?_) | refine vIfQ_of (fun _ => ?_) (fun _ => ?_) | refine vIfV_of (fun _ => ?_) (fun _ => ?_) | refine And.intro (by omega) ?_ | fail)
          exact hl7.trans hl8
        · rw [e]
          rintro _ w7 ⟨rfl, hQ7, c7⟩
          have hl7 := c7.later hl56 (by simpa using hkqw)
          have hzl : (zi x).length = n := by rw [hz, List.length_take]; omega
          repeat' (first | (simp (disch := omega) only [push_cast, ↓reduceIte, Nat.reduceEqDiff, Int.reduceToNat, Nat.reducePow, Int.reducePow, Int.reduceNeg, Nat.reduceMul, Int.reduceMul, Int.reduceAdd, Int.reduceSub, Nat.reduceAdd, Nat.reduceSub, Nat.reduceLeDiff, Int.reduceLT, Int.reduceLE, Int.reduceEq, Int.reduceMod, Int.reduceDiv, reduceCtorEq, not_true_eq_false, not_false_eq_true]) | refine vIfE_of (fun _ => ?_) (fun _ => ?_) | refine vIfD_of (fun _ => ?_) (fun _ => ?_) | refine vIfQ_of (fun _ => ?_) (fun _ => ?_) | refine vIfV_of (fun _ => ?_) (fun _ => ?_) | refine And.intro (by omega) ?_ | fail)
          refine (zInt_c (.slice none 0 0) [] x w7 hx (Sl.nil _) (by simp)).mono ?_
          rintro cv w8 ⟨hc, hl8⟩
          have hc : OwnB w8 w7.heap.size 5 cv (zi x) := by unfold OwnB; simpa using hc
          obtain ⟨oc, cc, rfl⟩ := hc.slice
          have hQ8 := hQ7.chg (Chg.of_later (ks := []) hl8) (by simp) (by simp)
          have b8 : Sl w8 (.slice o2 lb.length c2) (lb.map u8v) := hbb.later (hl7.trans hl8)
          have p8 := b8.pre (k := n) hn
          rw [← List.map_take, ← hz] at p8
          have hdl : (lb.drop n).length = lb.length - n := List.length_drop
          rw [hzl] at hc ⊢
          repeat' (first | (simp (disch := omega) only [push_cast, ↓reduceIte, Nat.reduceEqDiff, Int.reduceToNat, Nat.reducePow, Int.reducePow, Int.reduceNeg, Nat.reduceMul, Int.reduceMul, Int.reduceAdd, Int.reduceSub, Nat.reduceAdd, Nat.reduceSub, Nat.reduceLeDiff, Int.reduceLT, Int.reduceLE, Int.reduceEq, Int.reduceMod, Int.reduceDiv, reduceCtorEq, not_true_eq_false, not_false_eq_true]) | refine vIfE_of (fun _ => ?_) (fun _ => ?_) | refine vIfD_of (fun _ => ?_) (fun _ => ?_) | refine vIfQ_of (fun _ => ?_) (fun _ => ?_) | refine vIfV_of (fun _ => ?_) (fun _ => ?_) | refine And.intro (by omega) ?_ | refine drawn_q ?_ | fail)
          refine QFn.of hb29 (v := .bool true) (fun w' _ => (alive_c w').mono fun _ _ h => h) ?_
          repeat' (first | (simp (disch := omega) only [push_cast, ↓reduceIte, Nat.reduceEqDiff, Int.reduceToNat, Nat.reducePow, Int.reducePow, Int.reduceNeg, Nat.reduceMul, Int.reduceMul, Int.reduceAdd, Int.reduceSub, Nat.reduceAdd, Nat.reduceSub, Nat.reduceLeDiff, Int.reduceLT, Int.reduceLE, Int.reduceEq, Int.reduceMod, Int.reduceDiv, reduceCtorEq, not_true_eq_false, not_false_eq_true]) | refine vIfE_of (fun _ => ?_) (fun _ => ?_) | refine vIfD_of (fun _ => ?_) (fun _ => ?_) | refine vIfQ_of (fun _ => ?_) (fun _ => ?_) | refine vIfV_of (fun _ => ?_) (fun _ => ?_) | refine And.intro (by omega) ?_ | refine drawn_q ?_ | fail)
          refine QFn.of hb41 (v := .int .i64 (lb.drop n).length) (fun w' hl' => (zRLeft_c kq dq _ w' (hQ8.chg (Chg.of_later (ks := []) hl') (by simp) (by simp))).mono fun _ _ h => ⟨h.1, h.2 ▸ Later.refl _⟩) ?_
          rw [hdl]
          repeat' (first | (simp (disch := omega) only [push_cast, ↓reduceIte, Nat.reduceEqDiff, Int.reduceToNat, Nat.reducePow, Int.reducePow, Int.reduceNeg, Nat.reduceMul, Int.reduceMul, Int.reduceAdd, Int.reduceSub, Nat.reduceAdd, Nat.reduceSub, Nat.reduceLeDiff, Int.reduceLT, Int.reduceLE, Int.reduceEq, Int.reduceMod, Int.reduceDiv, reduceCtorEq, not_true_eq_false, not_false_eq_true]) | refine vIfE_of (fun _ => ?_) (fun _ => ?_) | refine vIfD_of (fun _ => ?_) (fun _ => ?_) | refine vIfQ_of (fun _ => ?_) (fun _ => ?_) | refine vIfV_of (fun _ => ?_) (fun _ => ?_) | refine And.intro (by omega) ?_ | refine drawn_q ?_ | fail)
          · refine qConv_bytes Try.underlying40 Try.underlying9 Try.underlying5 (by simp (disch := omega) only [push_cast, ↓reduceIte, Nat.reduceEqDiff, Int.reduceToNat, Nat.reducePow, Int.reducePow, Int.reduceNeg, Nat.reduceMul, Int.reduceMul, Int.reduceAdd, Int.reduceSub, Nat.reduceAdd, Nat.reduceSub, Nat.reduceLeDiff, Int.reduceLT, Int.reduceLE, Int.reduceEq, Int.reduceMod, Int.reduceDiv, reduceCtorEq, not_true_eq_false, not_false_eq_true]) hc.sl ?_
            repeat' (first | (simp (disch := omega) only [push_cast, ↓reduceIte, Nat.reduceEqDiff, Int.reduceToNat, Nat.reducePow, Int.reducePow, Int.reduceNeg, Nat.reduceMul, Int.reduceMul, Int.reduceAdd, Int.reduceSub, Nat.reduceAdd, Nat.reduceSub, Nat.reduceLeDiff, Int.reduceLT, Int.reduceLE, Int.reduceEq, Int.reduceMod, Int.reduceDiv, reduceCtorEq, not_true_eq_false, not_false_eq_true]) | refine vIfE_of (fun _ => ?_) (fun _ => ?_) | refine vIfD_of (fun _ => ?_) (fun _ => ?_) | refine vIfQ_of (fun _ => ?_) (fun _ => ?_) | refine vIfV_of (fun _ => ?_) (fun _ => ?_) | refine And.intro (by omega) ?_ | refine drawn_q ?_ | fail)
            refine qConv_bytes Try.underlying40 Try.underlying9 Try.underlying5 (by simp (disch := omega) only [push_cast, ↓reduceIte, Nat.reduceEqDiff, Int.reduceToNat, Nat.reducePow, Int.reducePow, Int.reduceNeg, Nat.reduceMul, Int.reduceMul, Int.reduceAdd, Int.reduceSub, Nat.reduceAdd, Nat.reduceSub, Nat.reduceLeDiff, Int.reduceLT, Int.reduceLE, Int.reduceEq, Int.reduceMod, Int.reduceDiv, reduceCtorEq, not_true_eq_false, not_false_eq_true]) p8 ?_
            repeat' (first | (simp (disch := omega) only [push_cast, ↓reduceIte, Nat.reduceEqDiff, Int.reduceToNat, Nat.reducePow, Int.reducePow, Int.reduceNeg, Nat.reduceMul, Int.reduceMul, Int.reduceAdd, Int.reduceSub, Nat.reduceAdd, Nat.reduceSub, Nat.reduceLeDiff, Int.reduceLT, Int.reduceLE, Int.reduceEq, Int.reduceMod, Int.reduceDiv, reduceCtorEq, not_true_eq_false, not_false_eq_true]) | refine vIfE_of (fun _ => ?_) (fun _ => ?_) | refine vIfD_of (fun _ => ?_) (fun _ => ?_) | refine vIfQ_of (fun _ => ?_) (fun _ => ?_) | refine vIfV_of (fun _ => ?_) (fun _ => ?_) | refine And.intro (by omega) ?_ | refine drawn_q ?_ | fail)
            intro w9 hl9
            exact hl7.trans (hl8.trans hl9)
theorem own : ownKnob Try.prog.godebug = none := by kernel_rfl
theorem lifted (os : Os) (started : os.Started) (H : Type) (enc : TypeId × Value → H) :
    ReturnsInHanded {} Try.checked os 10 .any (Rows.zigBackSpec.pre6 enc Try.prog Try.f10 Rows.zigBackRow.domain false) (Rows.zigBackSpec.post enc Try.prog Try.f10 false true false false) := by
  refine lifted_later (C := Try.checked) own started (by kernel_rfl) Try.func10 hb10
    (ChangeSpec.witness6 (enc := enc) (C := Try.checked) false ⟨#[], #[.slice none 0 0, .slice none 0 0], []⟩ 10 (by kernel_rfl) (by kernel_rfl) (by kernel_rfl) (by kernel_rfl))
    (by kernel_rfl) (list_all (by kernel_rfl)) (by kernel_rfl) Try.underlying4 rfl ?_ ?_
  · intro ds h
    have h : ds.length = 2 := h
    match ds, h with
    | [_, _], _ => rfl
  · intro W base args ds p hval0 hA0
    have hval : ∀ (j : Nat) t v, Try.f10.params[j]? = some t → args[j]? = some v → Value.okWide Try.prog W .any base t v := hval0
    have hA : DataW.TrodAll enc Try.prog W 0 (fun _ => true) true Try.f10.params.toList args.toList ds p := hA0
    rw [Try.params10] at hA hval
    obtain ⟨v0, vs0, d0, ds0, p0, q0, hargs, rfl, rfl, h0, r0⟩ := trodAll_cons hA
    obtain ⟨v1, vs1, d1, ds1, p1, q1, rfl, rfl, rfl, h1, r1⟩ := trodAll_cons r0
    obtain ⟨rfl, rfl, rfl⟩ := trodAll_nil r1
    obtain rfl : args = #[v0, v1] := by cases args; simp_all
    obtain ⟨a0, w0⟩ := open_acts (hval 0 39 v0 rfl rfl) h0
    obtain ⟨a1, w1⟩ := open_u8s Try.underlying40 Try.underlying5 (by kernel_rfl) (hval 1 40 v1 rfl rfl) h1
    exact law_c v0 v1 a0 a1 W w0.1 w0.2 w1
theorem over : Rows.zigBackRow.holds Try.pinned (OpenSpec.ofChange Rows.zigBackSpec) :=
  OpenClaim.holds_of_wide 10 Try.f10 rfl rfl rfl rfl rfl rfl rfl ⟨rfl, rfl, rfl, rfl, rfl⟩ rfl rfl rfl rfl rfl (by kernel_rfl) Try.func10 (by kernel_rfl)
    (of_decide_eq_true (by kernel_rfl)) (by unfold Func.isWrapper; first | (rw [if_pos (by decide +kernel)]; kernel_rfl) | (rw [if_neg (by decide +kernel)]; exact ⟨rfl, rfl⟩))
    (fun os started H enc _ => lifted os started H enc)
/-- The statement. -/
theorem proved : Rows.ZigBackSaid :=
  over
end Go.Proofs.Ytgomibebepmlhaa.zigBack
