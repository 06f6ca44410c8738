/- The contract of the live question. -/
import Derived.Test.YtgomibebepmlhaaZig7
set_option linter.unusedSimpArgs false
namespace Go.Proofs.Ytgomibebepmlhaa
open Go.Vc Go.Zig

theorem zi_150 : zi (-150) = [130, 43] := by
  have h : (foldI (-150)).toNat = 299 := by decide
  unfold zi zu; rw [h, hi_pos (by omega), hi_zero' (by omega)]; rfl
theorem zi_2 : zi 2 = [4] := by
  have h : (foldI 2).toNat = 4 := by decide
  unfold zi zu; rw [h, hi_zero' (by omega)]; rfl
theorem alive_c (w : World) : FnC Try.prog 29 #[] w fun v w' => v = .bool true ∧ Later w w' := by
  refine enter29 ?_
  unfold B29
  repeat' (first | (simp (disch := omega) only [push_cast, ↓reduceIte, Nat.reduceEqDiff, Int.reduceToNat, Nat.reducePow, Int.reducePow, Int.reduceNeg, Nat.reduceMul, Int.reduceMul, Int.reduceAdd, Int.reduceSub, Nat.reduceAdd, Nat.reduceSub, Nat.reduceLeDiff, Int.reduceLT, Int.reduceLE, Int.reduceEq, Int.reduceMod, Int.reduceDiv, reduceCtorEq]) | refine vIfE_of (fun _ => ?_) (fun _ => ?_) | refine vIfD_of (fun _ => ?_) (fun _ => ?_) | refine vIfQ_of (fun _ => ?_) (fun _ => ?_) | refine vIfV_of (fun _ => ?_) (fun _ => ?_) | refine And.intro (by omega) ?_ | refine drawn_q ?_ | fail)
  refine (zInt_c (.slice none 0 0) [] (-150) w (by unfold I64; omega) (Sl.nil _) (by simp)).mono ?_
  rintro v1 w1 ⟨ho1, hl1⟩
  repeat' (first | (simp (disch := omega) only [push_cast, ↓reduceIte, Nat.reduceEqDiff, Int.reduceToNat, Nat.reducePow, Int.reducePow, Int.reduceNeg, Nat.reduceMul, Int.reduceMul, Int.reduceAdd, Int.reduceSub, Nat.reduceAdd, Nat.reduceSub, Nat.reduceLeDiff, Int.reduceLT, Int.reduceLE, Int.reduceEq, Int.reduceMod, Int.reduceDiv, reduceCtorEq]) | refine vIfE_of (fun _ => ?_) (fun _ => ?_) | refine vIfD_of (fun _ => ?_) (fun _ => ?_) | refine vIfQ_of (fun _ => ?_) (fun _ => ?_) | refine vIfV_of (fun _ => ?_) (fun _ => ?_) | refine And.intro (by omega) ?_ | refine drawn_q ?_ | fail)
  have e0 : ({ data := #[104, 105] } : ByteArray) = strOf [104, 105] := rfl
  have ho1 : OwnB w1 w.heap.size 5 v1 [130, 43] := by have h := ho1; rw [zi_150] at h; exact h
  refine (zText_c v1 [130, 43] _ w1 ho1.sl (by decide)).mono ?_
  rintro v2 w2 ⟨ho2, hl2⟩
  have ho2 : OwnB w2 w1.heap.size 5 v2 [130, 43, 4, 104, 105] := by
    have h := ho2
    have e : (([130, 43] : List UInt8) ++ zi ((⟨#[104, 105]⟩ : ByteArray).size : Int) ++ (⟨#[104, 105]⟩ : ByteArray).data.toList) = [130, 43, 4, 104, 105] := by
      have : (((⟨#[104, 105]⟩ : ByteArray).size : Nat) : Int) = 2 := rfl
      rw [this, zi_2]; rfl
    rw [e] at h; exact h
  repeat' (first | (simp (disch := omega) only [push_cast, ↓reduceIte, Nat.reduceEqDiff, Int.reduceToNat, Nat.reducePow, Int.reducePow, Int.reduceNeg, Nat.reduceMul, Int.reduceMul, Int.reduceAdd, Int.reduceSub, Nat.reduceAdd, Nat.reduceSub, Nat.reduceLeDiff, Int.reduceLT, Int.reduceLE, Int.reduceEq, Int.reduceMod, Int.reduceDiv, reduceCtorEq]) | refine vIfE_of (fun _ => ?_) (fun _ => ?_) | refine vIfD_of (fun _ => ?_) (fun _ => ?_) | refine vIfQ_of (fun _ => ?_) (fun _ => ?_) | refine vIfV_of (fun _ => ?_) (fun _ => ?_) | refine And.intro (by omega) ?_ | refine drawn_q ?_ | fail)
  refine (zOpen_c v2 _ w2 ho2.sl (by decide)).mono ?_
  rintro _ w3 ⟨k, d, rfl, hR3, hk, hd, hl3⟩
  repeat' (first | (simp (disch := omega) only [push_cast, ↓reduceIte, Nat.reduceEqDiff, Int.reduceToNat, Nat.reducePow, Int.reducePow, Int.reduceNeg, Nat.reduceMul, Int.reduceMul, Int.reduceAdd, Int.reduceSub, Nat.reduceAdd, Nat.reduceSub, Nat.reduceLeDiff, Int.reduceLT, Int.reduceLE, Int.reduceEq, Int.reduceMod, Int.reduceDiv, reduceCtorEq]) | refine vIfE_of (fun _ => ?_) (fun _ => ?_) | refine vIfD_of (fun _ => ?_) (fun _ => ?_) | refine vIfQ_of (fun _ => ?_) (fun _ => ?_) | refine vIfV_of (fun _ => ?_) (fun _ => ?_) | refine And.intro (by omega) ?_ | refine drawn_q ?_ | fail)
  refine (zRInt_c k d _ (-200) 0 w3 hR3).mono ?_
  have e1 : rI [130, 43, 4, 104, 105] (-200) 0 = (-150, 0, [4, 104, 105]) := by decide
  rw [e1]
  rintro _ w4 ⟨rfl, hR4, g4⟩
  repeat' (first | (simp (disch := omega) only [push_cast, ↓reduceIte, Nat.reduceEqDiff, Int.reduceToNat, Nat.reducePow, Int.reducePow, Int.reduceNeg, Nat.reduceMul, Int.reduceMul, Int.reduceAdd, Int.reduceSub, Nat.reduceAdd, Nat.reduceSub, Nat.reduceLeDiff, Int.reduceLT, Int.reduceLE, Int.reduceEq, Int.reduceMod, Int.reduceDiv, reduceCtorEq]) | refine vIfE_of (fun _ => ?_) (fun _ => ?_) | refine vIfD_of (fun _ => ?_) (fun _ => ?_) | refine vIfQ_of (fun _ => ?_) (fun _ => ?_) | refine vIfV_of (fun _ => ?_) (fun _ => ?_) | refine And.intro (by omega) ?_ | refine drawn_q ?_ | fail)
  refine (zRText_c k d _ 2 w4 hR4).mono ?_
  have e2 : rT [4, 104, 105] 2 = (strOf [104, 105], 0, []) := by rfl
  rw [e2]
  rintro _ w5 ⟨rfl, hR5, g5⟩
  have g : Later w2 w5 := Chg.later hl3 (g4.trans g5) (by simpa using hk)
  obtain ⟨o, c, rfl⟩ := ho2.slice
  have hs := (ho2.later g).sl
  cases o with
  | none => have := hs.len.2.2.2 rfl; simp at this
  | some a =>
    have c0 : w5.cell? a = some (.int .u8 130) := by have := hs.at (i := 0) (x := u8v 130) rfl; rw [addr_add_zero] at this; exact this
    have c1 : w5.cell? (a.add 1) = some (.int .u8 43) := hs.at (i := 1) (x := u8v 43) rfl
    have e5 : (([130, 43, 4, 104, 105] : List UInt8).length) = 5 := rfl
    rw [e5]
    repeat' (first | (simp (disch := omega) only [push_cast, ↓reduceIte, Nat.reduceEqDiff, Int.reduceToNat, Nat.reducePow, Int.reducePow, Int.reduceNeg, Nat.reduceMul, Int.reduceMul, Int.reduceAdd, Int.reduceSub, Nat.reduceAdd, Nat.reduceSub, Nat.reduceLeDiff, Int.reduceLT, Int.reduceLE, Int.reduceEq, Int.reduceMod, Int.reduceDiv, reduceCtorEq, c0, c1, addr_add_zero]) | refine vIfE_of (fun _ => ?_) (fun _ => ?_) | refine vIfD_of (fun _ => ?_) (fun _ => ?_) | refine vIfQ_of (fun _ => ?_) (fun _ => ?_) | refine vIfV_of (fun _ => ?_) (fun _ => ?_) | refine And.intro (by omega) ?_ | refine drawn_q ?_ | fail)
    · refine (zRLeft_c k d _ w5 hR5).mono ?_
      rintro _ _ ⟨rfl, rfl⟩
      repeat' (first | (simp (disch := omega) only [push_cast, ↓reduceIte, Nat.reduceEqDiff, Int.reduceToNat, Nat.reducePow, Int.reducePow, Int.reduceNeg, Nat.reduceMul, Int.reduceMul, Int.reduceAdd, Int.reduceSub, Nat.reduceAdd, Nat.reduceSub, Nat.reduceLeDiff, Int.reduceLT, Int.reduceLE, Int.reduceEq, Int.reduceMod, Int.reduceDiv, reduceCtorEq]) | refine vIfE_of (fun _ => ?_) (fun _ => ?_) | refine vIfD_of (fun _ => ?_) (fun _ => ?_) | refine vIfQ_of (fun _ => ?_) (fun _ => ?_) | refine vIfV_of (fun _ => ?_) (fun _ => ?_) | refine And.intro (by omega) ?_ | refine drawn_q ?_ | fail)
      exact ⟨rfl, hl1.trans (hl2.trans g)⟩
    · rename_i hne
      exact absurd rfl hne
end Go.Proofs.Ytgomibebepmlhaa
