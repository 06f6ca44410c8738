/- The contract of the program's Decode. -/
import Derived.Test.YtdfdohajjgjbdaaDel5
import Derived.Test.YtdfdohajjgjbdaaNib5
set_option linter.unusedSimpArgs false
namespace Go.Proofs.Ytdfdohajjgjbdaa
open Go.Vc Go.Del Go.Zig Go.Nib
theorem rI_facts (l : List UInt8) (a b : Int) : ((rI l a b).2.1 = 0 ∧ a ≤ (rI l a b).1 ∧ (rI l a b).1 ≤ b ∧ I64 (rI l a b).1 ∧ (rI l a b).2.2.length ≤ l.length) ∨ ((rI l a b).2.1 = 11 ∧ (rI l a b).1 = 0 ∧ (rI l a b).2.2.length ≤ l.length) := by
  unfold rI
  cases hn : Zig.num l with
  | none => exact .inr ⟨rfl, rfl, Nat.le_refl _⟩
  | some p =>
    obtain ⟨u, n⟩ := p
    have hs := num_some hn
    have hU : U64 (u : Int) := by unfold U64; omega
    simp only
    split
    · exact .inr ⟨rfl, rfl, Nat.le_refl _⟩
    · refine .inl ⟨rfl, by dsimp only; omega, by dsimp only; omega, unfoldI_i64 hU, by simp⟩
theorem unE_facts (b : List UInt8) (n k : Int) : unE b n k = 0 ∨ 0 < unE b n k := by
  unfold unE
  split
  · omega
  · split
    · omega
    · split <;> omega
theorem rB_all (l : List UInt8) : rB l (l.length : Int) = (l, 0, []) := by
  unfold rB
  rw [if_neg (by omega)]
  simp
theorem empty_c (k d : Nat) (l : List UInt8) (e : Int) (w : World) (h : Rd w k d l) (he : 0 ≤ e ∧ e ≤ 100) : FnC Try.prog 52 #[pt k, .int .i64 e] w fun v w' => v = .tuple #[.slice none 0 0, .int .i64 (if e = 0 ∧ l = [] then 0 else 81)] ∧ w' = w := by
  refine enter52 _ _ ?_
  unfold B52
  have hlen : l.length ≤ 9223372036854775807 := by
    obtain ⟨o, n, c, h1, h2, _⟩ := h
    obtain ⟨hn, hnc, hm, _⟩ := h2.len
    unfold maxLen at hm
    simp only [List.length_map] at hn
    omega
  by_cases h0 : e = 0
  · repeat' (first | (simp (disch := omega) only [push_cast, ↓reduceIte, Nat.reduceEqDiff, Int.reduceToNat, Nat.reducePow, Int.reducePow, Int.reduceNeg, Nat.reduceMul, Int.reduceMul, Int.reduceAdd, Int.reduceSub, Nat.reduceAdd, Nat.reduceSub, Nat.reduceLeDiff, Int.reduceLT, Int.reduceLE, Int.reduceEq, Int.reduceMod, Int.reduceDiv, reduceCtorEq, not_true_eq_false, not_false_eq_true]) | refine vIfE_of (fun _ => ?_) (fun _ => ?_) | refine vIfD_of (fun _ => ?_) (fun _ => ?_) | refine vIfQ_of (fun _ => ?_) (fun _ => ?_) | refine vIfV_of (fun _ => ?_) (fun _ => ?_) | refine And.intro (by omega) ?_ | refine drawn_q ?_ | fail)
    refine (zRLeft_c k d l w h).mono ?_
    rintro _ w0 ⟨rfl, hw⟩
    obtain rfl := hw.symm
    by_cases hl : l = []
    · have e1 : l.length = 0 := by rw [hl]; rfl
      repeat' (first | (simp (disch := omega) only [push_cast, ↓reduceIte, Nat.reduceEqDiff, Int.reduceToNat, Nat.reducePow, Int.reducePow, Int.reduceNeg, Nat.reduceMul, Int.reduceMul, Int.reduceAdd, Int.reduceSub, Nat.reduceAdd, Nat.reduceSub, Nat.reduceLeDiff, Int.reduceLT, Int.reduceLE, Int.reduceEq, Int.reduceMod, Int.reduceDiv, reduceCtorEq, not_true_eq_false, not_false_eq_true]) | refine vIfE_of (fun _ => ?_) (fun _ => ?_) | refine vIfD_of (fun _ => ?_) (fun _ => ?_) | refine vIfQ_of (fun _ => ?_) (fun _ => ?_) | refine vIfV_of (fun _ => ?_) (fun _ => ?_) | refine And.intro (by omega) ?_ | refine drawn_q ?_ | fail)
      simp [h0, hl]
    · have e1 : 0 < l.length := List.length_pos_iff.2 hl
      repeat' (first | (simp (disch := omega) only [push_cast, ↓reduceIte, Nat.reduceEqDiff, Int.reduceToNat, Nat.reducePow, Int.reducePow, Int.reduceNeg, Nat.reduceMul, Int.reduceMul, Int.reduceAdd, Int.reduceSub, Nat.reduceAdd, Nat.reduceSub, Nat.reduceLeDiff, Int.reduceLT, Int.reduceLE, Int.reduceEq, Int.reduceMod, Int.reduceDiv, reduceCtorEq, not_true_eq_false, not_false_eq_true]) | refine vIfE_of (fun _ => ?_) (fun _ => ?_) | refine vIfD_of (fun _ => ?_) (fun _ => ?_) | refine vIfQ_of (fun _ => ?_) (fun _ => ?_) | refine vIfV_of (fun _ => ?_) (fun _ => ?_) | refine And.intro (by omega) ?_ | refine drawn_q ?_ | fail)
      simp [h0, hl]
  · repeat' (first | (simp (disch := omega) only [push_cast, ↓reduceIte, Nat.reduceEqDiff, Int.reduceToNat, Nat.reducePow, Int.reducePow, Int.reduceNeg, Nat.reduceMul, Int.reduceMul, Int.reduceAdd, Int.reduceSub, Nat.reduceAdd, Nat.reduceSub, Nat.reduceLeDiff, Int.reduceLT, Int.reduceLE, Int.reduceEq, Int.reduceMod, Int.reduceDiv, reduceCtorEq, not_true_eq_false, not_false_eq_true]) | refine vIfE_of (fun _ => ?_) (fun _ => ?_) | refine vIfD_of (fun _ => ?_) (fun _ => ?_) | refine vIfQ_of (fun _ => ?_) (fun _ => ?_) | refine vIfV_of (fun _ => ?_) (fun _ => ?_) | refine And.intro (by omega) ?_ | refine drawn_q ?_ | fail)
    simp [h0]
def DecR (w : World) (B : Nat) (r : Value) (b : List UInt8) : Prop := ∃ x l e, r = .tuple #[x, .int .i64 e] ∧ DecE b l e ∧ OwnI w B 3 x l
theorem dec_bad {w : World} {B : Nat} {b : List UInt8} (h : ∀ m, ¬ Dec b m) : DecR w B (.tuple #[.slice none 0 0, .int .i64 81]) b :=
  ⟨_, [], 81, rfl, .inr ⟨h, rfl, rfl⟩, own_nil _ _ _ _⟩
set_option maxRecDepth 100000 in
theorem decode_c (v : Value) (b : List UInt8) (w : World) (h : Sl w v (b.map u8v)) (hb : b.length ≤ 140737488355000) : FnC Try.prog 31 #[v] w fun r w' => DecR w' w.heap.size r b ∧ Later w w' := by
  have hs := h
  obtain ⟨o, c, rfl, g1, g2, h, g3⟩ := h.openM
  refine enter31 _ ?_
  unfold B31
  repeat' (first | (simp (disch := omega) only [push_cast, ↓reduceIte, Nat.reduceEqDiff, Int.reduceToNat, Nat.reducePow, Int.reducePow, Int.reduceNeg, Nat.reduceMul, Int.reduceMul, Int.reduceAdd, Int.reduceSub, Nat.reduceAdd, Nat.reduceSub, Nat.reduceLeDiff, Int.reduceLT, Int.reduceLE, Int.reduceEq, Int.reduceMod, Int.reduceDiv, reduceCtorEq, not_true_eq_false, not_false_eq_true]) | refine vIfE_of (fun _ => ?_) (fun _ => ?_) | refine vIfD_of (fun _ => ?_) (fun _ => ?_) | refine vIfQ_of (fun _ => ?_) (fun _ => ?_) | refine vIfV_of (fun _ => ?_) (fun _ => ?_) | refine And.intro (by omega) ?_ | refine drawn_q ?_ | fail)
  refine (zOpen_c _ b w hs hb).mono ?_
  rintro _ w1 ⟨k, d, rfl, hR1, hk, hd, hl1⟩
  have hkl : k < w1.heap.size := by
    obtain ⟨_, _, _, _, _, _, _, h⟩ := hR1
    exact h
  unfold pt
  repeat' (first | (simp (disch := omega) only [push_cast, ↓reduceIte, Nat.reduceEqDiff, Int.reduceToNat, Nat.reducePow, Int.reducePow, Int.reduceNeg, Nat.reduceMul, Int.reduceMul, Int.reduceAdd, Int.reduceSub, Nat.reduceAdd, Nat.reduceSub, Nat.reduceLeDiff, Int.reduceLT, Int.reduceLE, Int.reduceEq, Int.reduceMod, Int.reduceDiv, reduceCtorEq, not_true_eq_false, not_false_eq_true]) | refine vIfE_of (fun _ => ?_) (fun _ => ?_) | refine vIfD_of (fun _ => ?_) (fun _ => ?_) | refine vIfQ_of (fun _ => ?_) (fun _ => ?_) | refine vIfV_of (fun _ => ?_) (fun _ => ?_) | refine And.intro (by omega) ?_ | refine drawn_q ?_ | fail)
  refine (zRInt_c k d b 0 65536 w1 hR1).mono ?_
  rintro _ w2 ⟨rfl, hR2, g2'⟩
  have hl2 := g2'.later hl1 (by simpa using hk)
  have F0 := rI_facts b 0 65536
  rcases hq0 : rI b 0 65536 with ⟨n, e0, r0⟩
  rw [hq0] at F0 hR2
  dsimp only at F0 hR2 ⊢
  by_cases hE0 : e0 = 0
  case neg =>
    have hno := no_n (b := b) (by rw [hq0]; exact hE0)
    repeat' (first | (simp (disch := omega) only [push_cast, ↓reduceIte, Nat.reduceEqDiff, Int.reduceToNat, Nat.reducePow, Int.reducePow, Int.reduceNeg, Nat.reduceMul, Int.reduceMul, Int.reduceAdd, Int.reduceSub, Nat.reduceAdd, Nat.reduceSub, Nat.reduceLeDiff, Int.reduceLT, Int.reduceLE, Int.reduceEq, Int.reduceMod, Int.reduceDiv, reduceCtorEq, not_true_eq_false, not_false_eq_true]) | refine vIfE_of (fun _ => ?_) (fun _ => ?_) | refine vIfD_of (fun _ => ?_) (fun _ => ?_) | refine vIfQ_of (fun _ => ?_) (fun _ => ?_) | refine vIfV_of (fun _ => ?_) (fun _ => ?_) | refine And.intro (by omega) ?_ | refine drawn_q ?_ | fail)
    refine (empty_c k d r0 e0 w2 hR2 (by omega)).mono ?_
    rintro _ w0 ⟨rfl, hw⟩
    obtain rfl := hw.symm
    rw [if_neg (by simp [hE0])]
    repeat' (first | (simp (disch := omega) only [push_cast, ↓reduceIte, Nat.reduceEqDiff, Int.reduceToNat, Nat.reducePow, Int.reducePow, Int.reduceNeg, Nat.reduceMul, Int.reduceMul, Int.reduceAdd, Int.reduceSub, Nat.reduceAdd, Nat.reduceSub, Nat.reduceLeDiff, Int.reduceLT, Int.reduceLE, Int.reduceEq, Int.reduceMod, Int.reduceDiv, reduceCtorEq, not_true_eq_false, not_false_eq_true]) | refine vIfE_of (fun _ => ?_) (fun _ => ?_) | refine vIfD_of (fun _ => ?_) (fun _ => ?_) | refine vIfQ_of (fun _ => ?_) (fun _ => ?_) | refine vIfV_of (fun _ => ?_) (fun _ => ?_) | refine And.intro (by omega) ?_ | refine drawn_q ?_ | fail)
    exact ⟨dec_bad hno, hl2⟩
  subst hE0
  by_cases hn0 : n = 0
  · subst hn0
    repeat' (first | (simp (disch := omega) only [push_cast, ↓reduceIte, Nat.reduceEqDiff, Int.reduceToNat, Nat.reducePow, Int.reducePow, Int.reduceNeg, Nat.reduceMul, Int.reduceMul, Int.reduceAdd, Int.reduceSub, Nat.reduceAdd, Nat.reduceSub, Nat.reduceLeDiff, Int.reduceLT, Int.reduceLE, Int.reduceEq, Int.reduceMod, Int.reduceDiv, reduceCtorEq, not_true_eq_false, not_false_eq_true]) | refine vIfE_of (fun _ => ?_) (fun _ => ?_) | refine vIfD_of (fun _ => ?_) (fun _ => ?_) | refine vIfQ_of (fun _ => ?_) (fun _ => ?_) | refine vIfV_of (fun _ => ?_) (fun _ => ?_) | refine And.intro (by omega) ?_ | refine drawn_q ?_ | fail)
    refine (empty_c k d r0 0 w2 hR2 (by omega)).mono ?_
    rintro _ w0 ⟨rfl, hw⟩
    obtain rfl := hw.symm
    by_cases hr0 : r0 = []
    · rw [if_pos ⟨rfl, hr0⟩]
      repeat' (first | (simp (disch := omega) only [push_cast, ↓reduceIte, Nat.reduceEqDiff, Int.reduceToNat, Nat.reducePow, Int.reducePow, Int.reduceNeg, Nat.reduceMul, Int.reduceMul, Int.reduceAdd, Int.reduceSub, Nat.reduceAdd, Nat.reduceSub, Nat.reduceLeDiff, Int.reduceLT, Int.reduceLE, Int.reduceEq, Int.reduceMod, Int.reduceDiv, reduceCtorEq, not_true_eq_false, not_false_eq_true]) | refine vIfE_of (fun _ => ?_) (fun _ => ?_) | refine vIfD_of (fun _ => ?_) (fun _ => ?_) | refine vIfQ_of (fun _ => ?_) (fun _ => ?_) | refine vIfV_of (fun _ => ?_) (fun _ => ?_) | refine And.intro (by omega) ?_ | refine drawn_q ?_ | fail)
      subst hr0
      exact ⟨⟨_, [], 0, rfl, .inl ⟨yes_0 hq0, rfl⟩, own_nil _ _ _ _⟩, hl2⟩
    · rw [if_neg (by simp [hr0])]
      repeat' (first | (simp (disch := omega) only [push_cast, ↓reduceIte, Nat.reduceEqDiff, Int.reduceToNat, Nat.reducePow, Int.reducePow, Int.reduceNeg, Nat.reduceMul, Int.reduceMul, Int.reduceAdd, Int.reduceSub, Nat.reduceAdd, Nat.reduceSub, Nat.reduceLeDiff, Int.reduceLT, Int.reduceLE, Int.reduceEq, Int.reduceMod, Int.reduceDiv, reduceCtorEq, not_true_eq_false, not_false_eq_true]) | refine vIfE_of (fun _ => ?_) (fun _ => ?_) | refine vIfD_of (fun _ => ?_) (fun _ => ?_) | refine vIfQ_of (fun _ => ?_) (fun _ => ?_) | refine vIfV_of (fun _ => ?_) (fun _ => ?_) | refine And.intro (by omega) ?_ | refine drawn_q ?_ | fail)
      exact ⟨dec_bad (no_0 hq0 hr0), hl2⟩
  have hrun := fun (m : List Int) (hm : Dec b m) => dec_run hm hq0 (by omega)
  repeat' (first | (simp (disch := omega) only [push_cast, ↓reduceIte, Nat.reduceEqDiff, Int.reduceToNat, Nat.reducePow, Int.reducePow, Int.reduceNeg, Nat.reduceMul, Int.reduceMul, Int.reduceAdd, Int.reduceSub, Nat.reduceAdd, Nat.reduceSub, Nat.reduceLeDiff, Int.reduceLT, Int.reduceLE, Int.reduceEq, Int.reduceMod, Int.reduceDiv, reduceCtorEq, not_true_eq_false, not_false_eq_true]) | refine vIfE_of (fun _ => ?_) (fun _ => ?_) | refine vIfD_of (fun _ => ?_) (fun _ => ?_) | refine vIfQ_of (fun _ => ?_) (fun _ => ?_) | refine vIfV_of (fun _ => ?_) (fun _ => ?_) | refine And.intro (by omega) ?_ | refine drawn_q ?_ | fail)
  refine (zRInt_c k d r0 (-9223372036854775808) 9223372036854775807 w2 hR2).mono ?_
  rintro _ w3 ⟨rfl, hR3, g3'⟩
  have hl3 := g3'.later hl2 (by simpa using hk)
  have F1 := rI_facts r0 (-9223372036854775808) 9223372036854775807
  rcases hq1 : rI r0 (-9223372036854775808) 9223372036854775807 with ⟨f, e1, r1⟩
  rw [hq1] at F1 hR3
  simp only [hq1] at hrun
  dsimp only at F1 hR3 ⊢
  repeat' (first | (simp (disch := omega) only [push_cast, ↓reduceIte, Nat.reduceEqDiff, Int.reduceToNat, Nat.reducePow, Int.reducePow, Int.reduceNeg, Nat.reduceMul, Int.reduceMul, Int.reduceAdd, Int.reduceSub, Nat.reduceAdd, Nat.reduceSub, Nat.reduceLeDiff, Int.reduceLT, Int.reduceLE, Int.reduceEq, Int.reduceMod, Int.reduceDiv, reduceCtorEq, not_true_eq_false, not_false_eq_true]) | refine vIfE_of (fun _ => ?_) (fun _ => ?_) | refine vIfD_of (fun _ => ?_) (fun _ => ?_) | refine vIfQ_of (fun _ => ?_) (fun _ => ?_) | refine vIfV_of (fun _ => ?_) (fun _ => ?_) | refine And.intro (by omega) ?_ | refine drawn_q ?_ | fail)
  refine (zRInt_c k d r1 (-9223372036854775808) 9223372036854775807 w3 hR3).mono ?_
  rintro _ w4 ⟨rfl, hR4, g4'⟩
  have hl4 := g4'.later hl3 (by simpa using hk)
  have F2 := rI_facts r1 (-9223372036854775808) 9223372036854775807
  rcases hq2 : rI r1 (-9223372036854775808) 9223372036854775807 with ⟨bs, e2, r2⟩
  rw [hq2] at F2 hR4
  dsimp only at F2 hR4 ⊢
  repeat' (first | (simp (disch := omega) only [push_cast, ↓reduceIte, Nat.reduceEqDiff, Int.reduceToNat, Nat.reducePow, Int.reducePow, Int.reduceNeg, Nat.reduceMul, Int.reduceMul, Int.reduceAdd, Int.reduceSub, Nat.reduceAdd, Nat.reduceSub, Nat.reduceLeDiff, Int.reduceLT, Int.reduceLE, Int.reduceEq, Int.reduceMod, Int.reduceDiv, reduceCtorEq, not_true_eq_false, not_false_eq_true]) | refine vIfE_of (fun _ => ?_) (fun _ => ?_) | refine vIfD_of (fun _ => ?_) (fun _ => ?_) | refine vIfQ_of (fun _ => ?_) (fun _ => ?_) | refine vIfV_of (fun _ => ?_) (fun _ => ?_) | refine And.intro (by omega) ?_ | refine drawn_q ?_ | fail)
  refine (zRInt_c k d r2 0 64 w4 hR4).mono ?_
  rintro _ w5 ⟨rfl, hR5, g5'⟩
  have hl5 := g5'.later hl4 (by simpa using hk)
  have F3 := rI_facts r2 0 64
  rcases hq3 : rI r2 0 64 with ⟨wd, e3, r3⟩
  rw [hq3] at F3 hR5
  dsimp only at F3 hR5 ⊢
  have hlen : r3.length ≤ b.length := by omega
  repeat' (first | (simp (disch := omega) only [push_cast, ↓reduceIte, Nat.reduceEqDiff, Int.reduceToNat, Nat.reducePow, Int.reducePow, Int.reduceNeg, Nat.reduceMul, Int.reduceMul, Int.reduceAdd, Int.reduceSub, Nat.reduceAdd, Nat.reduceSub, Nat.reduceLeDiff, Int.reduceLT, Int.reduceLE, Int.reduceEq, Int.reduceMod, Int.reduceDiv, reduceCtorEq, not_true_eq_false, not_false_eq_true]) | refine vIfE_of (fun _ => ?_) (fun _ => ?_) | refine vIfD_of (fun _ => ?_) (fun _ => ?_) | refine vIfQ_of (fun _ => ?_) (fun _ => ?_) | refine vIfV_of (fun _ => ?_) (fun _ => ?_) | refine And.intro (by omega) ?_ | refine drawn_q ?_ | fail)
  refine (zRLeft_c k d r3 w5 hR5).mono ?_
  rintro _ w0 ⟨rfl, hw⟩
  obtain rfl := hw.symm
  repeat' (first | (simp (disch := omega) only [push_cast, ↓reduceIte, Nat.reduceEqDiff, Int.reduceToNat, Nat.reducePow, Int.reducePow, Int.reduceNeg, Nat.reduceMul, Int.reduceMul, Int.reduceAdd, Int.reduceSub, Nat.reduceAdd, Nat.reduceSub, Nat.reduceLeDiff, Int.reduceLT, Int.reduceLE, Int.reduceEq, Int.reduceMod, Int.reduceDiv, reduceCtorEq, not_true_eq_false, not_false_eq_true]) | refine vIfE_of (fun _ => ?_) (fun _ => ?_) | refine vIfD_of (fun _ => ?_) (fun _ => ?_) | refine vIfQ_of (fun _ => ?_) (fun _ => ?_) | refine vIfV_of (fun _ => ?_) (fun _ => ?_) | refine And.intro (by omega) ?_ | refine drawn_q ?_ | fail)
  refine (zRBytes_c k d r3 r3.length w5 hR5 (by omega)).mono ?_
  rintro _ w6 ⟨p, rfl, hp, hR6, g6'⟩
  have hl6 := g6'.later hl5 (by simpa using hk)
  rw [rB_all] at hp ⊢
  dsimp only at hp ⊢
  have hI : I64 f ∧ I64 bs ∧ 0 ≤ wd ∧ wd ≤ 64 := by
    unfold I64 at *
    omega
  have hI' := hI
  unfold I64 at hI'
  repeat' (first | (simp (disch := omega) only [push_cast, ↓reduceIte, Nat.reduceEqDiff, Int.reduceToNat, Nat.reducePow, Int.reducePow, Int.reduceNeg, Nat.reduceMul, Int.reduceMul, Int.reduceAdd, Int.reduceSub, Nat.reduceAdd, Nat.reduceSub, Nat.reduceLeDiff, Int.reduceLT, Int.reduceLE, Int.reduceEq, Int.reduceMod, Int.reduceDiv, reduceCtorEq, not_true_eq_false, not_false_eq_true]) | refine vIfE_of (fun _ => ?_) (fun _ => ?_) | refine vIfD_of (fun _ => ?_) (fun _ => ?_) | refine vIfQ_of (fun _ => ?_) (fun _ => ?_) | refine vIfV_of (fun _ => ?_) (fun _ => ?_) | refine And.intro (by omega) ?_ | refine drawn_q ?_ | fail)
  refine (unpack_c p r3 (n - 1) wd w6 hp.sl (by omega) (by omega) (by omega)).mono ?_
  rintro _ w7 ⟨⟨x, rfl, hx⟩, hl7⟩
  have hl07 := hl6.trans hl7
  have F4 := unE_facts r3 (n - 1) wd
  have hall : ∀ m, Dec b m → e1 = 0 ∧ e2 = 0 ∧ e3 = 0 ∧ unE r3 (n - 1) wd = 0 ∧ unN f bs (nums r3 (n - 1).toNat wd.toNat) = m := by
    intro m hm
    obtain ⟨s1, s2, s3, hnm, a1, a2, a3, a4, a5⟩ := hrun m hm
    simp only [Prod.mk.injEq] at a1
    obtain ⟨b1, b2, b3⟩ := a1
    subst b3
    rw [hq2] at a2
    simp only [Prod.mk.injEq] at a2
    obtain ⟨c1, c2, c3⟩ := a2
    subst c3
    rw [hq3] at a3
    simp only [Prod.mk.injEq] at a3
    obtain ⟨d1, d2, d3⟩ := a3
    subst d3
    rw [d1, b1, c1]
    exact ⟨b2, c2, d2, a4, a5⟩
  have hU : unE r3 (n - 1) wd ≤ 100 := by
    unfold unE
    split
    · omega
    · split
      · omega
      · split <;> omega
  unfold unR at hx
  generalize unE r3 (n - 1) wd = eu at *
  by_cases hz : e1 = 0 ∧ e2 = 0 ∧ e3 = 0 ∧ eu = 0
  case neg =>
    have hno : ∀ m, ¬ Dec b m := fun m hm => hz ⟨(hall m hm).1, (hall m hm).2.1, (hall m hm).2.2.1, (hall m hm).2.2.2.1⟩
    repeat' (first | (simp (disch := omega) only [push_cast, ↓reduceIte, Nat.reduceEqDiff, Int.reduceToNat, Nat.reducePow, Int.reducePow, Int.reduceNeg, Nat.reduceMul, Int.reduceMul, Int.reduceAdd, Int.reduceSub, Nat.reduceAdd, Nat.reduceSub, Nat.reduceLeDiff, Int.reduceLT, Int.reduceLE, Int.reduceEq, Int.reduceMod, Int.reduceDiv, reduceCtorEq, not_true_eq_false, not_false_eq_true]) | refine vIfE_of (fun _ => ?_) (fun _ => ?_) | refine vIfD_of (fun _ => ?_) (fun _ => ?_) | refine vIfQ_of (fun _ => ?_) (fun _ => ?_) | refine vIfV_of (fun _ => ?_) (fun _ => ?_) | refine And.intro (by omega) ?_ | refine drawn_q ?_ | fail)
    exact ⟨dec_bad hno, hl07⟩
  obtain ⟨rfl, rfl, rfl, rfl⟩ := hz
  rw [if_pos rfl] at hx
  have hrl : (nums r3 (n - 1).toNat wd.toNat).length = (n - 1).toNat := nums_len _ _ _
  generalize nums r3 (n - 1).toNat wd.toNat = rest at *
  obtain ⟨ox, cx, hvx⟩ := hx.slice
  subst hvx
  repeat' (first | (simp (disch := omega) only [push_cast, ↓reduceIte, Nat.reduceEqDiff, Int.reduceToNat, Nat.reducePow, Int.reducePow, Int.reduceNeg, Nat.reduceMul, Int.reduceMul, Int.reduceAdd, Int.reduceSub, Nat.reduceAdd, Nat.reduceSub, Nat.reduceLeDiff, Int.reduceLT, Int.reduceLE, Int.reduceEq, Int.reduceMod, Int.reduceDiv, reduceCtorEq, not_true_eq_false, not_false_eq_true]) | refine vIfE_of (fun _ => ?_) (fun _ => ?_) | refine vIfD_of (fun _ => ?_) (fun _ => ?_) | refine vIfQ_of (fun _ => ?_) (fun _ => ?_) | refine vIfV_of (fun _ => ?_) (fun _ => ?_) | refine And.intro (by omega) ?_ | refine drawn_q ?_ | fail)
  have hal := fun m hm => (hall m hm).2.2.2.2
  have Bn := Blk.new w7 #[.int .i64 f] 3
  have la := later_alloc w7 (.cells #[.int .i64 f] 3)
  have own0 : OwnI (w7.alloc (.cells #[.int .i64 f] 3)) w7.heap.size 3 (.slice (some ⟨w7.heap.size, 0, none⟩) 1 1) [f] :=
    own_blk (xs := [.int .i64 f]) Bn rfl (by unfold maxLen; omega) (Nat.le_refl _)
  generalize hka : w7.heap.size = ka at *
  have hx8 := hx.later la
  generalize w7.alloc (.cells #[.int .i64 f] 3) = w8 at *
  have hl08 := hl07.trans la
  have hka8 : ka ≤ w8.heap.size := by rw [← hka]; exact la.size
  have hwka : w.heap.size ≤ ka := by rw [← hka]; exact hl07.size
  have hnn : rest.length ≤ 65535 := by omega
  refine vc_loop W31_0 (fun q : Nat × Value => [(16, q.2), (79, .int .i64 (q.1 : Int))])
    (fun q w' => q.1 ≤ rest.length ∧ OwnW w' w6.heap.size 47 (.slice ox rest.length cx) rest ∧ Later w w' ∧ OwnI w' w.heap.size 3 q.2 (unN f bs (rest.take q.1))) (fun q => rest.length - q.1) (0, .slice (some ⟨ka, 0, none⟩) 1 1) (by decide) ?_ ?_ ?_
  · simp (disch := omega) only [push_cast, ↓reduceIte, Nat.reduceEqDiff, Int.reduceToNat, Nat.reducePow, Int.reducePow, Int.reduceNeg, Nat.reduceMul, Int.reduceMul, Int.reduceAdd, Int.reduceSub, Nat.reduceAdd, Nat.reduceSub, Nat.reduceLeDiff, Int.reduceLT, Int.reduceLE, Int.reduceEq, Int.reduceMod, Int.reduceDiv, reduceCtorEq, not_true_eq_false, not_false_eq_true]
  · exact ⟨by omega, hx8, hl08, OwnI.base own0 hwka⟩
  rintro ⟨i, v⟩ uu w9 ⟨hi, hx9, hl09, ho⟩
  dsimp only at hi ho
  obtain ⟨ov, cv, hov⟩ := ho.slice
  subst hov
  have hul := unN_len f bs (rest.take i)
  rw [List.length_take, Nat.min_eq_left hi] at hul
  have hos := ho.sl
  have hin := unN_in (f := f) bs (by omega) (rest.take i)
  by_cases hlt : i < rest.length
  · have hsn := unN_snoc f bs (rest.take i) rest[i]
    rw [← take_snoc rest i hlt] at hsn
    unfold OwnI at ho
    rw [hul] at ho hos hsn ⊢
    generalize unN f bs (rest.take i) = L at *
    obtain ⟨ax, hax⟩ := hx9.sl.some hlt
    subst hax
    obtain ⟨av, hav⟩ := hos.some (show 0 < L.length by omega)
    subst hav
    have c1 := hx9.sl.at64 hlt
    have c2 := hos.atI (i := i) (by omega)
    have hi1 : (((i + 1 : Nat) : Int) - 1).toNat = i := by omega
    have hi2 : ((i : Int) + 1 - 1).toNat = i := by omega
    have hst : IntKind.i64.wrap (IntKind.i64.wrap (at_ L i + bs) + IntKind.i64.wrap (rest[i].toNat : Int)) = wr (wr (at_ L i + bs) + wr (rest[i].toNat : Int)) := by simp only [wrap_wr]
    repeat' (first | (simp (disch := omega) only [push_cast, ↓reduceIte, Nat.reduceEqDiff, Int.reduceToNat, Nat.reducePow, Int.reducePow, Int.reduceNeg, Nat.reduceMul, Int.reduceMul, Int.reduceAdd, Int.reduceSub, Nat.reduceAdd, Nat.reduceSub, Nat.reduceLeDiff, Int.reduceLT, Int.reduceLE, Int.reduceEq, Int.reduceMod, Int.reduceDiv, reduceCtorEq, not_true_eq_false, not_false_eq_true, c1, c2, hi1, hi2, hst]) | refine vIfE_of (fun _ => ?_) (fun _ => ?_) | refine vIfD_of (fun _ => ?_) (fun _ => ?_) | refine vIfQ_of (fun _ => ?_) (fun _ => ?_) | refine vIfV_of (fun _ => ?_) (fun _ => ?_) | refine And.intro (by omega) ?_ | refine drawn_q ?_ | fail)
    refine vAppend_oneG Try.underlying35 ti3 rfl ho rfl (by unfold maxLen; omega) (by omega) hl09.size ?_
    intro v' w' ho' hg hlk
    have hx' : OwnW w' w6.heap.size 47 (.slice (some ax) rest.length cx) rest := own_grown_ty (own_alloc hx9 _) (own_alloc ho _) (by decide) hg
    repeat' (first | (simp (disch := omega) only [push_cast, ↓reduceIte, Nat.reduceEqDiff, Int.reduceToNat, Nat.reducePow, Int.reducePow, Int.reduceNeg, Nat.reduceMul, Int.reduceMul, Int.reduceAdd, Int.reduceSub, Nat.reduceAdd, Nat.reduceSub, Nat.reduceLeDiff, Int.reduceLT, Int.reduceLE, Int.reduceEq, Int.reduceMod, Int.reduceDiv, reduceCtorEq, not_true_eq_false, not_false_eq_true]) | refine vIfE_of (fun _ => ?_) (fun _ => ?_) | refine vIfD_of (fun _ => ?_) (fun _ => ?_) | refine vIfQ_of (fun _ => ?_) (fun _ => ?_) | refine vIfV_of (fun _ => ?_) (fun _ => ?_) | refine And.intro (by omega) ?_ | refine drawn_q ?_ | fail)
    refine ⟨rfl, (i + 1, v'), by simp (disch := omega) only [push_cast, ↓reduceIte, Nat.reduceEqDiff, Int.reduceToNat, Nat.reducePow, Int.reducePow, Int.reduceNeg, Nat.reduceMul, Int.reduceMul, Int.reduceAdd, Int.reduceSub, Nat.reduceAdd, Nat.reduceSub, Nat.reduceLeDiff, Int.reduceLT, Int.reduceLE, Int.reduceEq, Int.reduceMod, Int.reduceDiv, reduceCtorEq, not_true_eq_false, not_false_eq_true], ⟨by dsimp only; omega, hx', hlk w hl09 (Nat.le_refl _), ?_⟩, by dsimp only; omega⟩
    dsimp only
    rw [hsn]
    unfold OwnI
    rw [List.length_append, hul, List.map_append]
    exact ho'
  · have e : i = rest.length := by omega
    subst e
    rw [List.take_length] at ho hos hul hin ⊢
    generalize unN f bs rest = L at *
    have hLl : ¬ 65536 < L.length := by omega
    repeat' (first | (simp (disch := omega) only [push_cast, ↓reduceIte, Nat.reduceEqDiff, Int.reduceToNat, Nat.reducePow, Int.reducePow, Int.reduceNeg, Nat.reduceMul, Int.reduceMul, Int.reduceAdd, Int.reduceSub, Nat.reduceAdd, Nat.reduceSub, Nat.reduceLeDiff, Int.reduceLT, Int.reduceLE, Int.reduceEq, Int.reduceMod, Int.reduceDiv, reduceCtorEq, not_true_eq_false, not_false_eq_true]) | refine vIfE_of (fun _ => ?_) (fun _ => ?_) | refine vIfD_of (fun _ => ?_) (fun _ => ?_) | refine vIfQ_of (fun _ => ?_) (fun _ => ?_) | refine vIfV_of (fun _ => ?_) (fun _ => ?_) | refine And.intro (by omega) ?_ | refine drawn_q ?_ | fail)
    refine (encode_c _ L w9 hos hin).mono ?_
    rintro _ w10 ⟨⟨y, rfl, hy⟩, hl10⟩
    have hE : encE L = 0 := by unfold encE; rw [if_neg hLl]
    have hEL : encL L = enc L := by unfold encL; rw [if_pos hE]
    rw [hE]
    rw [hEL] at hy
    obtain ⟨oy, cy, hvy⟩ := hy.slice
    subst hvy
    have hl010 := hl09.trans hl10
    repeat' (first | (simp (disch := omega) only [push_cast, ↓reduceIte, Nat.reduceEqDiff, Int.reduceToNat, Nat.reducePow, Int.reducePow, Int.reduceNeg, Nat.reduceMul, Int.reduceMul, Int.reduceAdd, Int.reduceSub, Nat.reduceAdd, Nat.reduceSub, Nat.reduceLeDiff, Int.reduceLT, Int.reduceLE, Int.reduceEq, Int.reduceMod, Int.reduceDiv, reduceCtorEq, not_true_eq_false, not_false_eq_true]) | refine vIfE_of (fun _ => ?_) (fun _ => ?_) | refine vIfD_of (fun _ => ?_) (fun _ => ?_) | refine vIfQ_of (fun _ => ?_) (fun _ => ?_) | refine vIfV_of (fun _ => ?_) (fun _ => ?_) | refine And.intro (by omega) ?_ | refine drawn_q ?_ | fail)
    refine (equal_c _ _ (enc L) b w10 hy.sl (hs.later hl010)).mono ?_
    rintro _ w0 ⟨rfl, hw⟩
    obtain rfl := hw.symm
    by_cases hq : enc L = b
    · repeat' (first | (simp (disch := omega) only [push_cast, ↓reduceIte, Nat.reduceEqDiff, Int.reduceToNat, Nat.reducePow, Int.reducePow, Int.reduceNeg, Nat.reduceMul, Int.reduceMul, Int.reduceAdd, Int.reduceSub, Nat.reduceAdd, Nat.reduceSub, Nat.reduceLeDiff, Int.reduceLT, Int.reduceLE, Int.reduceEq, Int.reduceMod, Int.reduceDiv, reduceCtorEq, not_true_eq_false, not_false_eq_true, hq, decide_true]) | refine vIfE_of (fun _ => ?_) (fun _ => ?_) | refine vIfD_of (fun _ => ?_) (fun _ => ?_) | refine vIfQ_of (fun _ => ?_) (fun _ => ?_) | refine vIfV_of (fun _ => ?_) (fun _ => ?_) | refine And.intro (by omega) ?_ | refine drawn_q ?_ | fail)
      refine ⟨⟨_, L, 0, rfl, .inl ⟨⟨hin, by omega, hq⟩, rfl⟩, ?_⟩, hl010⟩
      exact OwnI.later ho hl10
    · have hno : ∀ m, ¬ Dec b m := fun m hm => by
        have := hal m hm
        subst this
        exact hq hm.2.2
      repeat' (first | (simp (disch := omega) only [push_cast, ↓reduceIte, Nat.reduceEqDiff, Int.reduceToNat, Nat.reducePow, Int.reducePow, Int.reduceNeg, Nat.reduceMul, Int.reduceMul, Int.reduceAdd, Int.reduceSub, Nat.reduceAdd, Nat.reduceSub, Nat.reduceLeDiff, Int.reduceLT, Int.reduceLE, Int.reduceEq, Int.reduceMod, Int.reduceDiv, reduceCtorEq, not_true_eq_false, not_false_eq_true, hq, decide_false]) | refine vIfE_of (fun _ => ?_) (fun _ => ?_) | refine vIfD_of (fun _ => ?_) (fun _ => ?_) | refine vIfQ_of (fun _ => ?_) (fun _ => ?_) | refine vIfV_of (fun _ => ?_) (fun _ => ?_) | refine And.intro (by omega) ?_ | refine drawn_q ?_ | fail)
      exact ⟨dec_bad hno, hl010⟩
end Go.Proofs.Ytdfdohajjgjbdaa
