/- The contract of zig.Int: what is put behind. -/
import Derived.Test.YtdfdohajjgjbdaaZig1
import Derived.Test.YtdfdohajjgjbdaaZigP
set_option linter.unusedSimpArgs false
namespace Go.Proofs.Ytdfdohajjgjbdaa
open Go.Vc Go.Zig

/-- The bytes of a number. -/
def zi (n : Int) : List UInt8 := zu (foldI n).toNat
def rdInt (bs ds : List UInt8) (b1 : Value) (B : Nat) (v : Value) (w : World) : Prop :=
  (ds = [] ∧ v = b1) ∨ (¬ ds = [] ∧ w.ownsRow B 5 1 v (bs.length + ds.length) ((bs ++ ds).map u8v))

theorem rdInt_app {bs ds : List UInt8} {o : Option Addr} {v : Value} {w1 w2 : World} {K : Value → World → Prop} (g : UInt8) (hv : rdInt bs ds (.slice o bs.length bs.length) w1.heap.size v w2) (hbs : Sl w2 (.slice o bs.length bs.length) (bs.map u8v))
    (hl : Later w1 w2) (hlen : bs.length ≤ 140737488355000) (hd : ds.length ≤ 10) (hK : ∀ v' w', rdInt bs (ds ++ [g]) (.slice o bs.length bs.length) w1.heap.size v' w' → Later w1 w' → K v' w') :
    vAppend Try.prog #[36, 36] 36 #[v, .slice (some ⟨w2.heap.size, 0, none⟩) 1 1] K (w2.alloc (.cells #[u8v g] 5)) := by
  rcases hv with ⟨rfl, rfl⟩ | ⟨hne, hown⟩
  · refine vAppend_full Try.underlying36 ti5 rfl (base := w1.heap.size) (m := 1) (news := [u8v g]) (SlN.later (n := bs.length) (by simpa [Sl] using hbs) (later_alloc _ _)) (Sl.one w2 _ _) (by omega) (by unfold maxLen; omega) (by omega) (by have := hl.size; simp; omega) ?_
    intro v' w' ho hl'
    refine hK v' w' (.inr ⟨by simp, by simpa using ho⟩) (hl.trans ((later_alloc _ _).trans hl'))
  · refine vAppend_one Try.underlying36 ti5 rfl hown rfl (by unfold maxLen; omega) (by omega) hl.size ?_
    intro v' w' ho hl'
    refine hK v' w' (.inr ⟨by simp, ?_⟩) (hl' w1 hl (Nat.le_refl _))
    have e : bs.length + ds.length + 1 = bs.length + (ds ++ [g]).length := by simp; omega
    rw [← e]
    simpa using ho
theorem shr7 (u i : Nat) (hi : i < 10) (hu : u < 18446744073709551616) : (u : Int).fdiv (2 ^ (7 * (9 - (i : Int))).toNat) = ((u / 128 ^ (9 - i) : Nat) : Int) := by
  rw [Int.fdiv_eq_ediv_of_nonneg _ (Int.le_of_lt (Int.pow_pos (by decide)))]
  have e : (7 * (9 - (i : Int))).toNat = 7 * (9 - i) := by omega
  have e2 : (2 : Int) ^ (7 * (9 - i)) = ((128 ^ (9 - i) : Nat) : Int) := by
    have : 2 ^ (7 * (9 - i)) = 128 ^ (9 - i) := by rw [Nat.pow_mul]
    rw [← this, Int.natCast_pow]; rfl
  rw [e, e2]; rfl
theorem byte_of (m : Nat) : bitI .andNot .u8 (IntKind.u8.wrap (m : Int)) 128 = ((m % 128 : Nat) : Int) := by
  have e : IntKind.u8.wrap (m : Int) = ((m % 256 : Nat) : Int) := by rw [IntKind.wrap_u8]; omega
  rw [e]
  have h := b8_andNot (⟨m % 256, by omega⟩ : Fin 256)
  rw [show (((⟨m % 256, by omega⟩ : Fin 256)).val : Int) = ((m % 256 : Nat) : Int) from rfl] at h
  rw [h]
  have : m % 256 % 128 = m % 128 := by omega
  rw [this]
theorem zInt_c (b : Value) (bs : List UInt8) (n : Int) (w : World) (h : I64 n) (hb : Sl w b (bs.map u8v)) (hl : bs.length ≤ 140737488355000) :
    FnC Try.prog 38 #[b, .int .i64 n] w fun v w' => w'.ownsRow w.heap.size 5 1 v (bs.length + (zi n).length) ((bs ++ zi n).map u8v) ∧ Later w w' := by
  obtain ⟨o, c, rfl, h1, h2, h3, h4⟩ := hb.open
  have hf := foldI_u64 h
  unfold U64 at hf
  unfold maxLen at h2
  simp only [List.length_map] at *
  refine enter38 _ _ ?_
  unfold B38
  simp (disch := omega) only [push_cast, ↓reduceIte, Nat.reduceEqDiff, Int.reduceToNat, Nat.reducePow, Int.reducePow, Int.reduceNeg, Nat.reduceMul, Int.reduceMul, Int.reduceAdd, Int.reduceSub, Nat.reduceAdd, Nat.reduceSub, Nat.reduceLeDiff, Int.reduceLT, Int.reduceLE, Int.reduceEq, Int.reduceMod, Int.reduceDiv, reduceCtorEq, not_true_eq_false, not_false_eq_true]
  refine ⟨by omega, ?_⟩
  refine (zFold_c n w h).mono ?_
  rintro _ w1 ⟨rfl, rfl⟩
  simp (disch := omega) only [push_cast, ↓reduceIte, Nat.reduceEqDiff, Int.reduceToNat, Nat.reducePow, Int.reducePow, Int.reduceNeg, Nat.reduceMul, Int.reduceMul, Int.reduceAdd, Int.reduceSub, Nat.reduceAdd, Nat.reduceSub, Nat.reduceLeDiff, Int.reduceLT, Int.reduceLE, Int.reduceEq, Int.reduceMod, Int.reduceDiv, reduceCtorEq, not_true_eq_false, not_false_eq_true]
  obtain ⟨u, hu⟩ := Int.eq_ofNat_of_zero_le hf.1
  have hzi : zi n = zu u := by unfold zi; rw [hu, Int.toNat_natCast]
  rw [hzi, hu]
  have hub : u < 18446744073709551616 := by omega
  clear hzi
  refine vc_loop W38_0 (fun s : Nat × Value => [(17, .int .i64 (s.1 : Int)), (0, s.2)])
    (fun s w' => s.1 ≤ 10 ∧ Later w1 w' ∧ rdInt bs (dg u s.1) (.slice o bs.length bs.length) w1.heap.size s.2 w') (fun s => 10 - s.1) (0, .slice o bs.length bs.length) (by decide) ?_ ?_ ?_
  · simp (disch := omega) only [push_cast, ↓reduceIte, Nat.reduceEqDiff, Int.reduceToNat, Nat.reducePow, Int.reducePow, Int.reduceNeg, Nat.reduceMul, Int.reduceMul, Int.reduceAdd, Int.reduceSub, Nat.reduceAdd, Nat.reduceSub, Nat.reduceLeDiff, Int.reduceLT, Int.reduceLE, Int.reduceEq, Int.reduceMod, Int.reduceDiv, reduceCtorEq, not_true_eq_false, not_false_eq_true]
  · exact ⟨by omega, Later.refl _, .inl ⟨dg_zero hub, rfl⟩⟩
  rintro ⟨i, v⟩ uu w2 ⟨hi10, hl2, hv⟩
  have hbs : Sl w2 (.slice o bs.length bs.length) (bs.map u8v) := hb.full.later hl2
  have hdl := dg_len hub i
  dsimp only at hi10 hl2 hv
  simp (disch := omega) only [push_cast, ↓reduceIte, Nat.reduceEqDiff, Int.reduceToNat, Nat.reducePow, Int.reducePow, Int.reduceNeg, Nat.reduceMul, Int.reduceMul, Int.reduceAdd, Int.reduceSub, Nat.reduceAdd, Nat.reduceSub, Nat.reduceLeDiff, Int.reduceLT, Int.reduceLE, Int.reduceEq, Int.reduceMod, Int.reduceDiv, reduceCtorEq, not_true_eq_false, not_false_eq_true]
  first | refine vIfD_of (fun hlt => ?_) (fun hge => ?_) | refine vIfE_of (fun hlt => ?_) (fun hge => ?_) | refine vIfQ_of (fun hlt => ?_) (fun hge => ?_) | refine vIfV_of (fun hlt => ?_) (fun hge => ?_)
  · have hlt : i < 10 := by omega
    simp (disch := omega) only [push_cast, ↓reduceIte, Nat.reduceEqDiff, Int.reduceToNat, Nat.reducePow, Int.reducePow, Int.reduceNeg, Nat.reduceMul, Int.reduceMul, Int.reduceAdd, Int.reduceSub, Nat.reduceAdd, Nat.reduceSub, Nat.reduceLeDiff, Int.reduceLT, Int.reduceLE, Int.reduceEq, Int.reduceMod, Int.reduceDiv, reduceCtorEq, not_true_eq_false, not_false_eq_true]
    rw [shr7 u i hlt hub]
    rw [byte_of]
    generalize hq : u / 128 ^ (9 - i) % 128 = q
    have hq128 : q < 128 := by omega
    refine ⟨by omega, ?_⟩
    first | refine vIfD_of (fun hz => ?_) (fun hz => ?_) | refine vIfE_of (fun hz => ?_) (fun hz => ?_) | refine vIfQ_of (fun hz => ?_) (fun hz => ?_) | refine vIfV_of (fun hz => ?_) (fun hz => ?_)
    · have hi9 : i = 9 := by omega
      subst hi9
      have e : (q : Int) = ((UInt8.ofNat (u % 128)).toNat : Int) := by simp at hq ⊢; omega
      rw [e]
      simp (disch := omega) only [push_cast, ↓reduceIte, Nat.reduceEqDiff, Int.reduceToNat, Nat.reducePow, Int.reducePow, Int.reduceNeg, Nat.reduceMul, Int.reduceMul, Int.reduceAdd, Int.reduceSub, Nat.reduceAdd, Nat.reduceSub, Nat.reduceLeDiff, Int.reduceLT, Int.reduceLE, Int.reduceEq, Int.reduceMod, Int.reduceDiv, reduceCtorEq, not_true_eq_false, not_false_eq_true]
      refine rdInt_app (UInt8.ofNat (u % 128)) hv hbs hl2 hl hdl ?_
      intro v' w' hv' hl'
      simp (disch := omega) only [push_cast, ↓reduceIte, Nat.reduceEqDiff, Int.reduceToNat, Nat.reducePow, Int.reducePow, Int.reduceNeg, Nat.reduceMul, Int.reduceMul, Int.reduceAdd, Int.reduceSub, Nat.reduceAdd, Nat.reduceSub, Nat.reduceLeDiff, Int.reduceLT, Int.reduceLE, Int.reduceEq, Int.reduceMod, Int.reduceDiv, reduceCtorEq, not_true_eq_false, not_false_eq_true]
      refine ⟨rfl, (10, v'), ?_, ⟨by simp, hl', ?_⟩, by simp⟩
      · simp (disch := omega) only [push_cast, ↓reduceIte, Nat.reduceEqDiff, Int.reduceToNat, Nat.reducePow, Int.reducePow, Int.reduceNeg, Nat.reduceMul, Int.reduceMul, Int.reduceAdd, Int.reduceSub, Nat.reduceAdd, Nat.reduceSub, Nat.reduceLeDiff, Int.reduceLT, Int.reduceLE, Int.reduceEq, Int.reduceMod, Int.reduceDiv, reduceCtorEq, not_true_eq_false, not_false_eq_true]
      · exact hv'
    · simp (disch := omega) only [push_cast, ↓reduceIte, Nat.reduceEqDiff, Int.reduceToNat, Nat.reducePow, Int.reducePow, Int.reduceNeg, Nat.reduceMul, Int.reduceMul, Int.reduceAdd, Int.reduceSub, Nat.reduceAdd, Nat.reduceSub, Nat.reduceLeDiff, Int.reduceLT, Int.reduceLE, Int.reduceEq, Int.reduceMod, Int.reduceDiv, reduceCtorEq, not_true_eq_false, not_false_eq_true]
      refine ⟨by omega, ?_⟩
      rw [shr7 u i hlt hub]
      first | refine vIfD_of (fun hpos => ?_) (fun hpos => ?_) | refine vIfE_of (fun hpos => ?_) (fun hpos => ?_) | refine vIfQ_of (fun hpos => ?_) (fun hpos => ?_) | refine vIfV_of (fun hpos => ?_) (fun hpos => ?_)
      · simp (disch := omega) only [push_cast, ↓reduceIte, Nat.reduceEqDiff, Int.reduceToNat, Nat.reducePow, Int.reducePow, Int.reduceNeg, Nat.reduceMul, Int.reduceMul, Int.reduceAdd, Int.reduceSub, Nat.reduceAdd, Nat.reduceSub, Nat.reduceLeDiff, Int.reduceLT, Int.reduceLE, Int.reduceEq, Int.reduceMod, Int.reduceDiv, reduceCtorEq, not_true_eq_false, not_false_eq_true]
        have hpos : 0 < u / 128 ^ (9 - i) := Int.natCast_pos.1 hpos
        rw [or_byte _ hq128]
        have e : ((q + 128 : Nat) : Int) = ((UInt8.ofNat (128 + u / 128 ^ (9 - i) % 128)).toNat : Int) := by rw [hq]; simp; omega
        rw [e]
        refine rdInt_app (UInt8.ofNat (128 + u / 128 ^ (9 - i) % 128)) hv hbs hl2 hl hdl ?_
        intro v' w' hv' hl'
        simp (disch := omega) only [push_cast, ↓reduceIte, Nat.reduceEqDiff, Int.reduceToNat, Nat.reducePow, Int.reducePow, Int.reduceNeg, Nat.reduceMul, Int.reduceMul, Int.reduceAdd, Int.reduceSub, Nat.reduceAdd, Nat.reduceSub, Nat.reduceLeDiff, Int.reduceLT, Int.reduceLE, Int.reduceEq, Int.reduceMod, Int.reduceDiv, reduceCtorEq, not_true_eq_false, not_false_eq_true]
        refine ⟨rfl, (i + 1, v'), ?_, ⟨by simp; omega, hl', ?_⟩, by simp; omega⟩
        · simp (disch := omega) only [push_cast, ↓reduceIte, Nat.reduceEqDiff, Int.reduceToNat, Nat.reducePow, Int.reducePow, Int.reduceNeg, Nat.reduceMul, Int.reduceMul, Int.reduceAdd, Int.reduceSub, Nat.reduceAdd, Nat.reduceSub, Nat.reduceLeDiff, Int.reduceLT, Int.reduceLE, Int.reduceEq, Int.reduceMod, Int.reduceDiv, reduceCtorEq, not_true_eq_false, not_false_eq_true]
        · simp only
          rw [dg_step (by omega), if_neg (Nat.ne_of_gt hpos)]; exact hv'
      · simp (disch := omega) only [push_cast, ↓reduceIte, Nat.reduceEqDiff, Int.reduceToNat, Nat.reducePow, Int.reducePow, Int.reduceNeg, Nat.reduceMul, Int.reduceMul, Int.reduceAdd, Int.reduceSub, Nat.reduceAdd, Nat.reduceSub, Nat.reduceLeDiff, Int.reduceLT, Int.reduceLE, Int.reduceEq, Int.reduceMod, Int.reduceDiv, reduceCtorEq, not_true_eq_false, not_false_eq_true]
        refine ⟨rfl, (i + 1, v), ?_, ⟨by simp; omega, hl2, ?_⟩, by simp; omega⟩
        · simp (disch := omega) only [push_cast, ↓reduceIte, Nat.reduceEqDiff, Int.reduceToNat, Nat.reducePow, Int.reducePow, Int.reduceNeg, Nat.reduceMul, Int.reduceMul, Int.reduceAdd, Int.reduceSub, Nat.reduceAdd, Nat.reduceSub, Nat.reduceLeDiff, Int.reduceLT, Int.reduceLE, Int.reduceEq, Int.reduceMod, Int.reduceDiv, reduceCtorEq, not_true_eq_false, not_false_eq_true]
        · simp only
          rw [dg_step (by omega), if_pos (Nat.eq_zero_of_not_pos fun h => hpos (Int.natCast_pos.2 h))]; exact hv
  · simp (disch := omega) only [push_cast, ↓reduceIte, Nat.reduceEqDiff, Int.reduceToNat, Nat.reducePow, Int.reducePow, Int.reduceNeg, Nat.reduceMul, Int.reduceMul, Int.reduceAdd, Int.reduceSub, Nat.reduceAdd, Nat.reduceSub, Nat.reduceLeDiff, Int.reduceLT, Int.reduceLE, Int.reduceEq, Int.reduceMod, Int.reduceDiv, reduceCtorEq, not_true_eq_false, not_false_eq_true]
    have hi : i = 10 := by omega
    subst hi
    rw [dg_ten] at hv
    rcases hv with ⟨h0, _⟩ | ⟨_, hv⟩
    · have := (zu_len hub).2
      rw [h0] at this; simp at this
    · exact ⟨hv, hl2⟩
end Go.Proofs.Ytdfdohajjgjbdaa
