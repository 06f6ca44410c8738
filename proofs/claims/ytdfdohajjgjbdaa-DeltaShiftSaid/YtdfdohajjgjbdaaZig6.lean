/- The contracts of the document's numbers and texts. -/
import Derived.Test.YtdfdohajjgjbdaaZig5
set_option linter.unusedSimpArgs false
namespace Go.Proofs.Ytdfdohajjgjbdaa
open Go.Vc Go.Zig

theorem rInt_c (n : Int) (w : World) (h : I64 n) :
    FnC Try.prog 44 #[.int .i64 n] w fun v w' => OwnB w' w.heap.size 5 v (zi n) ∧ Later w w' := by
  have hf := foldI_u64 h
  unfold U64 at hf
  refine enter44 _ ?_
  unfold B44
  simp (disch := omega) only [push_cast, ↓reduceIte, Nat.reduceEqDiff, Int.reduceToNat, Nat.reducePow, Int.reducePow, Int.reduceNeg, Nat.reduceMul, Int.reduceMul, Int.reduceAdd, Int.reduceSub, Nat.reduceAdd, Nat.reduceSub, Nat.reduceLeDiff, Int.reduceLT, Int.reduceLE, Int.reduceEq, Int.reduceMod, Int.reduceDiv, reduceCtorEq, not_true_eq_false, not_false_eq_true]
  refine (rFold_c n w h).mono ?_
  rintro _ w1 ⟨rfl, rfl⟩
  obtain ⟨u, hu⟩ := Int.eq_ofNat_of_zero_le hf.1
  have hzi : zi n = zu u := by unfold zi; rw [hu, Int.toNat_natCast]
  rw [hzi, hu]
  have hub : u < 18446744073709551616 := by omega
  have hlen := zu_len hub
  clear hzi hu hf h
  repeat' (first | (simp (disch := omega) only [push_cast, ↓reduceIte, Nat.reduceEqDiff, Int.reduceToNat, Nat.reducePow, Int.reducePow, Int.reduceNeg, Nat.reduceMul, Int.reduceMul, Int.reduceAdd, Int.reduceSub, Nat.reduceAdd, Nat.reduceSub, Nat.reduceLeDiff, Int.reduceLT, Int.reduceLE, Int.reduceEq, Int.reduceMod, Int.reduceDiv, reduceCtorEq, not_true_eq_false, not_false_eq_true]) | refine vIfE_of (fun _ => ?_) (fun _ => ?_) | refine vIfD_of (fun _ => ?_) (fun _ => ?_) | refine vIfQ_of (fun _ => ?_) (fun _ => ?_) | refine vIfV_of (fun _ => ?_) (fun _ => ?_) | refine And.intro (by omega) ?_ | refine drawn_q ?_ | fail)
  have e0 : (.int .u8 ((u : Int) % 128) : Value) = u8v (UInt8.ofNat (u % 128)) := by unfold u8v; congr 1; simp; omega
  rw [e0]
  refine vc_loop W44_0 (fun s : Nat × Value => [(3, .int .u64 (s.1 : Int)), (4, s.2)])
    (fun s w' => Later w1 w' ∧ ∃ out, OwnB w' w1.heap.size 5 s.2 out ∧ hi (s.1 / 128) ++ out = zu u ∧ s.1 < 18446744073709551616) (fun s => s.1) (u, .slice (some ⟨w1.heap.size, 0, none⟩) 1 1) (by decide) ?_ ?_ ?_
  · simp (disch := omega) only [push_cast, ↓reduceIte, Nat.reduceEqDiff, Int.reduceToNat, Nat.reducePow, Int.reducePow, Int.reduceNeg, Nat.reduceMul, Int.reduceMul, Int.reduceAdd, Int.reduceSub, Nat.reduceAdd, Nat.reduceSub, Nat.reduceLeDiff, Int.reduceLT, Int.reduceLE, Int.reduceEq, Int.reduceMod, Int.reduceDiv, reduceCtorEq, not_true_eq_false, not_false_eq_true]
  · exact ⟨later_alloc _ _, [UInt8.ofNat (u % 128)], own_lit w1 [u8v _] _ 1 1 rfl (by unfold maxLen; omega) (Nat.le_refl _), rfl, hub⟩
  rintro ⟨m, v⟩ uu w2 ⟨hl2, out, ho, hout, hm⟩
  dsimp only at ho hout hm
  have hol : out.length ≤ 10 := by have := congrArg List.length hout; simp at this; omega
  obtain ⟨o, c, rfl⟩ := ho.slice
  simp (disch := omega) only [push_cast, ↓reduceIte, Nat.reduceEqDiff, Int.reduceToNat, Nat.reducePow, Int.reducePow, Int.reduceNeg, Nat.reduceMul, Int.reduceMul, Int.reduceAdd, Int.reduceSub, Nat.reduceAdd, Nat.reduceSub, Nat.reduceLeDiff, Int.reduceLT, Int.reduceLE, Int.reduceEq, Int.reduceMod, Int.reduceDiv, reduceCtorEq, not_true_eq_false, not_false_eq_true]
  first | refine vIfD_of (fun h1 => ?_) (fun h1 => ?_) | refine vIfE_of (fun h1 => ?_) (fun h1 => ?_) | refine vIfQ_of (fun h1 => ?_) (fun h1 => ?_) | refine vIfV_of (fun h1 => ?_) (fun h1 => ?_)
  · repeat' (first | (simp (disch := omega) only [push_cast, ↓reduceIte, Nat.reduceEqDiff, Int.reduceToNat, Nat.reducePow, Int.reducePow, Int.reduceNeg, Nat.reduceMul, Int.reduceMul, Int.reduceAdd, Int.reduceSub, Nat.reduceAdd, Nat.reduceSub, Nat.reduceLeDiff, Int.reduceLT, Int.reduceLE, Int.reduceEq, Int.reduceMod, Int.reduceDiv, reduceCtorEq, not_true_eq_false, not_false_eq_true]) | refine vIfE_of (fun _ => ?_) (fun _ => ?_) | refine vIfD_of (fun _ => ?_) (fun _ => ?_) | refine vIfQ_of (fun _ => ?_) (fun _ => ?_) | refine vIfV_of (fun _ => ?_) (fun _ => ?_) | refine And.intro (by omega) ?_ | refine drawn_q ?_ | fail)
    have e1 : (.int .u8 (128 + (m : Int) / 128 % 128) : Value) = u8v (UInt8.ofNat (128 + m / 128 % 128)) := by unfold u8v; congr 1; simp; omega
    rw [e1]
    refine vAppend_own Try.underlying36 ti5 rfl (by decide) (base := w1.heap.size) (own_lit w2 [u8v (UInt8.ofNat (128 + m / 128 % 128))] _ 1 1 rfl (by unfold maxLen; omega) hl2.size) (SlN.later (n := out.length) (by simpa [Sl] using ho.sl) (later_alloc _ _)) (u8vs_one _) (by unfold maxLen; omega) (by omega) (by simp; have := hl2.size; omega) ?_
    intro v' w' ho' hg _
    simp (disch := omega) only [push_cast, ↓reduceIte, Nat.reduceEqDiff, Int.reduceToNat, Nat.reducePow, Int.reducePow, Int.reduceNeg, Nat.reduceMul, Int.reduceMul, Int.reduceAdd, Int.reduceSub, Nat.reduceAdd, Nat.reduceSub, Nat.reduceLeDiff, Int.reduceLT, Int.reduceLE, Int.reduceEq, Int.reduceMod, Int.reduceDiv, reduceCtorEq, not_true_eq_false, not_false_eq_true]
    refine ⟨rfl, (m / 128, v'), by simp (disch := omega) only [push_cast, ↓reduceIte, Nat.reduceEqDiff, Int.reduceToNat, Nat.reducePow, Int.reducePow, Int.reduceNeg, Nat.reduceMul, Int.reduceMul, Int.reduceAdd, Int.reduceSub, Nat.reduceAdd, Nat.reduceSub, Nat.reduceLeDiff, Int.reduceLT, Int.reduceLE, Int.reduceEq, Int.reduceMod, Int.reduceDiv, reduceCtorEq, not_true_eq_false, not_false_eq_true], ⟨?_, UInt8.ofNat (128 + m / 128 % 128) :: out, ?_, ?_, ?_⟩, ?_⟩
    · exact (hl2.alloc _).appended (own_lit w2 [_] _ 1 1 rfl (by unfold maxLen; omega) hl2.size) (Nat.le_refl _) hg
    · unfold OwnB; simpa [Nat.add_comm] using ho'
    · rw [← hout, hi_pos (u := m / 128) (by omega)]; simp
    · simp; omega
    · simp; omega
  · simp (disch := omega) only [push_cast, ↓reduceIte, Nat.reduceEqDiff, Int.reduceToNat, Nat.reducePow, Int.reducePow, Int.reduceNeg, Nat.reduceMul, Int.reduceMul, Int.reduceAdd, Int.reduceSub, Nat.reduceAdd, Nat.reduceSub, Nat.reduceLeDiff, Int.reduceLT, Int.reduceLE, Int.reduceEq, Int.reduceMod, Int.reduceDiv, reduceCtorEq, not_true_eq_false, not_false_eq_true]
    have : m / 128 = 0 := by omega
    rw [this, hi_zero, List.nil_append] at hout
    subst hout
    exact ⟨ho, hl2⟩
end Go.Proofs.Ytdfdohajjgjbdaa
