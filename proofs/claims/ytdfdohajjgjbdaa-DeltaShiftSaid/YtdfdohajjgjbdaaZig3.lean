/- The contract of zig's reader of one number. -/
import Derived.Test.YtdfdohajjgjbdaaZig2
set_option linter.unusedSimpArgs false
namespace Go.Proofs.Ytdfdohajjgjbdaa
open Go.Vc Go.Zig

/-- What next answers. -/
def nextV (l : List UInt8) : Int × Int := match num l with
  | none => (0, 0)
  | some (u, n) => (unfoldI u, n)

theorem tup2 {k j : IntKind} {a b c d : Int} (h : a = b) (h' : c = d) : Value.tuple #[.int k a, .int j c] = Value.tuple #[.int k b, .int j d] := by rw [h, h']
theorem zNext_c (b : Value) (l : List UInt8) (w : World) (hb : Sl w b (l.map u8v)) :
    FnC Try.prog 73 #[b] w fun v w' => v = .tuple #[.int .i64 (nextV l).1, .int .i64 (nextV l).2] ∧ w' = w := by
  obtain ⟨o, c, rfl, h1, h2, h3, h4⟩ := hb.open
  unfold maxLen at h2
  simp only [List.length_map] at *
  refine enter73 _ ?_
  unfold B73
  simp (disch := omega) only [push_cast, ↓reduceIte, Nat.reduceEqDiff, Int.reduceToNat, Nat.reducePow, Int.reducePow, Int.reduceNeg, Nat.reduceMul, Int.reduceMul, Int.reduceAdd, Int.reduceSub, Nat.reduceAdd, Nat.reduceSub, Nat.reduceLeDiff, Int.reduceLT, Int.reduceLE, Int.reduceEq, Int.reduceMod, Int.reduceDiv, reduceCtorEq, not_true_eq_false, not_false_eq_true]
  refine ⟨by omega, ?_⟩
  refine vc_loop W73_0 (fun s : Nat × Nat => [(13, .int .i64 (s.1 : Int)), (4, .int .u64 (s.2 : Int))])
    (fun s w' => w' = w ∧ s.1 ≤ min l.length 10 ∧ s.2 < 18446744073709551616 ∧ numGo s.1 s.2 (l.drop s.1) = num l) (fun s => 10 - s.1) (0, 0) (by decide) ?_ ?_ ?_
  · simp (disch := omega) only [push_cast, ↓reduceIte, Nat.reduceEqDiff, Int.reduceToNat, Nat.reducePow, Int.reducePow, Int.reduceNeg, Nat.reduceMul, Int.reduceMul, Int.reduceAdd, Int.reduceSub, Nat.reduceAdd, Nat.reduceSub, Nat.reduceLeDiff, Int.reduceLT, Int.reduceLE, Int.reduceEq, Int.reduceMod, Int.reduceDiv, reduceCtorEq, not_true_eq_false, not_false_eq_true]
  · exact ⟨rfl, by omega, by omega, rfl⟩
  rintro ⟨i, u⟩ uu w2 ⟨hw, hi, hu, hn⟩
  subst hw
  dsimp only at hi hu hn
  simp (disch := omega) only [push_cast, ↓reduceIte, Nat.reduceEqDiff, Int.reduceToNat, Nat.reducePow, Int.reducePow, Int.reduceNeg, Nat.reduceMul, Int.reduceMul, Int.reduceAdd, Int.reduceSub, Nat.reduceAdd, Nat.reduceSub, Nat.reduceLeDiff, Int.reduceLT, Int.reduceLE, Int.reduceEq, Int.reduceMod, Int.reduceDiv, reduceCtorEq, not_true_eq_false, not_false_eq_true]
  first | refine vIfD_of (fun hlt => ?_) (fun hge => ?_) | refine vIfE_of (fun hlt => ?_) (fun hge => ?_) | refine vIfQ_of (fun hlt => ?_) (fun hge => ?_) | refine vIfV_of (fun hlt => ?_) (fun hge => ?_)
  · have hil : i < l.length := by omega
    cases o with
    | none => have := (h3 rfl).1; simp at this; subst this; simp at hil
    | some a =>
      have hc : w2.cell? (a.add i) = some (.int .u8 (l[i].toNat : Int)) := h4 a rfl i _ (by simp [u8v, hil])
      rw [List.drop_eq_getElem_cons hil] at hn
      unfold numGo at hn
      rw [if_neg (by omega)] at hn
      generalize hcv : l[i] = cc at *
      have hcc := cc.toNat_lt
      have hl := low7 cc
      have ht := top8 cc
      have ho := cat7 u cc
      repeat' (first | (simp (disch := omega) only [push_cast, ↓reduceIte, Nat.reduceEqDiff, Int.reduceToNat, Nat.reducePow, Int.reducePow, Int.reduceNeg, Nat.reduceMul, Int.reduceMul, Int.reduceAdd, Int.reduceSub, Nat.reduceAdd, Nat.reduceSub, Nat.reduceLeDiff, Int.reduceLT, Int.reduceLE, Int.reduceEq, Int.reduceMod, Int.reduceDiv, reduceCtorEq, not_true_eq_false, not_false_eq_true, hc, hl, ht, ho]) | refine vIfE_of (fun _ => ?_) (fun _ => ?_) | refine vIfD_of (fun _ => ?_) (fun _ => ?_) | refine vIfQ_of (fun _ => ?_) (fun _ => ?_) | refine vIfV_of (fun _ => ?_) (fun _ => ?_) | refine And.intro (by omega) ?_ | refine drawn_q ?_ | fail)
      · unfold nextV; rw [← hn, if_pos (by omega)]
      · refine (zUnfold_c _ w2 (by unfold U64; omega)).mono ?_
        rintro _ _ ⟨rfl, rfl⟩
        repeat' (first | (simp (disch := omega) only [push_cast, ↓reduceIte, Nat.reduceEqDiff, Int.reduceToNat, Nat.reducePow, Int.reducePow, Int.reduceNeg, Nat.reduceMul, Int.reduceMul, Int.reduceAdd, Int.reduceSub, Nat.reduceAdd, Nat.reduceSub, Nat.reduceLeDiff, Int.reduceLT, Int.reduceLE, Int.reduceEq, Int.reduceMod, Int.reduceDiv, reduceCtorEq, not_true_eq_false, not_false_eq_true]) | refine vIfE_of (fun _ => ?_) (fun _ => ?_) | refine vIfD_of (fun _ => ?_) (fun _ => ?_) | refine vIfQ_of (fun _ => ?_) (fun _ => ?_) | refine vIfV_of (fun _ => ?_) (fun _ => ?_) | refine And.intro (by omega) ?_ | refine drawn_q ?_ | fail)
        unfold nextV; rw [← hn, if_neg (by omega), if_pos (by omega)]
        exact tup2 (by dsimp only; congr 1; omega) (by dsimp only; omega)
      · refine ⟨rfl, (i + 1, u * 128 + cc.toNat % 128), by simp (disch := omega) only [push_cast, ↓reduceIte, Nat.reduceEqDiff, Int.reduceToNat, Nat.reducePow, Int.reducePow, Int.reduceNeg, Nat.reduceMul, Int.reduceMul, Int.reduceAdd, Int.reduceSub, Nat.reduceAdd, Nat.reduceSub, Nat.reduceLeDiff, Int.reduceLT, Int.reduceLE, Int.reduceEq, Int.reduceMod, Int.reduceDiv, reduceCtorEq, not_true_eq_false, not_false_eq_true], ⟨rfl, by simp; omega, by simp; omega, ?_⟩, by simp; omega⟩
        rw [if_neg (by omega), if_neg (by omega)] at hn; exact hn
      · unfold nextV; rw [← hn, if_pos (by omega)]
      · unfold nextV; rw [← hn, if_pos (by omega)]
      · refine (zUnfold_c _ w2 (by unfold U64; omega)).mono ?_
        rintro _ _ ⟨rfl, rfl⟩
        repeat' (first | (simp (disch := omega) only [push_cast, ↓reduceIte, Nat.reduceEqDiff, Int.reduceToNat, Nat.reducePow, Int.reducePow, Int.reduceNeg, Nat.reduceMul, Int.reduceMul, Int.reduceAdd, Int.reduceSub, Nat.reduceAdd, Nat.reduceSub, Nat.reduceLeDiff, Int.reduceLT, Int.reduceLE, Int.reduceEq, Int.reduceMod, Int.reduceDiv, reduceCtorEq, not_true_eq_false, not_false_eq_true]) | refine vIfE_of (fun _ => ?_) (fun _ => ?_) | refine vIfD_of (fun _ => ?_) (fun _ => ?_) | refine vIfQ_of (fun _ => ?_) (fun _ => ?_) | refine vIfV_of (fun _ => ?_) (fun _ => ?_) | refine And.intro (by omega) ?_ | refine drawn_q ?_ | fail)
        unfold nextV; rw [← hn, if_neg (by omega), if_pos (by omega)]
        exact tup2 (by dsimp only; congr 1; omega) (by dsimp only; omega)
      · refine ⟨rfl, (i + 1, u * 128 + cc.toNat % 128), by simp (disch := omega) only [push_cast, ↓reduceIte, Nat.reduceEqDiff, Int.reduceToNat, Nat.reducePow, Int.reducePow, Int.reduceNeg, Nat.reduceMul, Int.reduceMul, Int.reduceAdd, Int.reduceSub, Nat.reduceAdd, Nat.reduceSub, Nat.reduceLeDiff, Int.reduceLT, Int.reduceLE, Int.reduceEq, Int.reduceMod, Int.reduceDiv, reduceCtorEq, not_true_eq_false, not_false_eq_true], ⟨rfl, by simp; omega, by simp; omega, ?_⟩, by simp; omega⟩
        rw [if_neg (by omega), if_neg (by omega)] at hn; exact hn
  · repeat' (first | (simp (disch := omega) only [push_cast, ↓reduceIte, Nat.reduceEqDiff, Int.reduceToNat, Nat.reducePow, Int.reducePow, Int.reduceNeg, Nat.reduceMul, Int.reduceMul, Int.reduceAdd, Int.reduceSub, Nat.reduceAdd, Nat.reduceSub, Nat.reduceLeDiff, Int.reduceLT, Int.reduceLE, Int.reduceEq, Int.reduceMod, Int.reduceDiv, reduceCtorEq, not_true_eq_false, not_false_eq_true]) | refine vIfE_of (fun _ => ?_) (fun _ => ?_) | refine vIfD_of (fun _ => ?_) (fun _ => ?_) | refine vIfQ_of (fun _ => ?_) (fun _ => ?_) | refine vIfV_of (fun _ => ?_) (fun _ => ?_) | refine And.intro (by omega) ?_ | refine drawn_q ?_ | fail)
    have h0 : num l = none := by
      rw [← hn]
      by_cases hi10 : i = 10
      · subst hi10; exact numGo_ten _ _
      · rw [List.drop_of_length_le (by omega)]; rfl
    unfold nextV; rw [h0]
end Go.Proofs.Ytdfdohajjgjbdaa
