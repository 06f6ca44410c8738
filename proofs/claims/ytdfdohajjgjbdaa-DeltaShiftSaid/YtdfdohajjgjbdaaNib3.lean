/- More contracts: lists that are one, a number's bits, a bit that is set. -/
import Derived.Test.YtdfdohajjgjbdaaNib2
set_option linter.unusedSimpArgs false
namespace Go.Proofs.Ytdfdohajjgjbdaa
open Go.Vc Go.Nib
/-- A bit as a byte. -/
def bu (b : Bool) : UInt8 := UInt8.ofNat b.toNat
theorem bu_v (b : Bool) : u8v (bu b) = .int .u8 (b.toNat : Int) := by cases b <;> rfl
theorem bits_own {w : World} {B : Nat} {e : TypeId} {v : Value} {l : List Bool} {n : Nat} {x : Bool} (h : w.ownsRow B e 1 v n ((l.map bu).map u8v ++ [.int .u8 (x.toNat : Int)])) : OwnB w B e v ((l ++ [x]).map bu) := by
  have hn := own_n h
  unfold OwnB
  rw [← bu_v] at h
  rw [hn] at h
  simpa using h
set_option maxRecDepth 100000 in
theorem rBits_c (x n : Nat) (w : World) (hx : x < 18446744073709551616) (hn : n ≤ 64) :
    FnC Try.prog 70 #[.int .u64 x, .int .i64 n] w fun v w' => OwnB w' w.heap.size 5 v ((bitsOf x n).map bu) ∧ Later w w' := by
  refine enter70 _ _ ?_
  unfold B70
  repeat' (first | (simp (disch := omega) only [push_cast, ↓reduceIte, Nat.reduceEqDiff, Int.reduceToNat, Nat.reducePow, Int.reducePow, Int.reduceNeg, Nat.reduceMul, Int.reduceMul, Int.reduceAdd, Int.reduceSub, Nat.reduceAdd, Nat.reduceSub, Nat.reduceLeDiff, Int.reduceLT, Int.reduceLE, Int.reduceEq, Int.reduceMod, Int.reduceDiv, reduceCtorEq, not_true_eq_false, not_false_eq_true]) | refine vIfE_of (fun _ => ?_) (fun _ => ?_) | refine vIfD_of (fun _ => ?_) (fun _ => ?_) | refine vIfQ_of (fun _ => ?_) (fun _ => ?_) | refine vIfV_of (fun _ => ?_) (fun _ => ?_) | refine And.intro (by omega) ?_ | refine drawn_q ?_ | fail)
  refine vc_loop W70_0 (fun p : Nat × Value => [(0, .int .u64 ((x / 2 ^ p.1 : Nat) : Int)), (5, p.2), (6, .int .i64 (p.1 : Int))])
    (fun p w' => p.1 ≤ n ∧ Later w w' ∧ OwnB w' w.heap.size 5 p.2 ((bitsOf x p.1).map bu)) (fun p => n - p.1) (0, .slice none 0 0) (by decide) ?_ ?_ ?_
  · simp (disch := omega) only [push_cast, ↓reduceIte, Nat.reduceEqDiff, Int.reduceToNat, Nat.reducePow, Int.reducePow, Int.reduceNeg, Nat.reduceMul, Int.reduceMul, Int.reduceAdd, Int.reduceSub, Nat.reduceAdd, Nat.reduceSub, Nat.reduceLeDiff, Int.reduceLT, Int.reduceLE, Int.reduceEq, Int.reduceMod, Int.reduceDiv, reduceCtorEq, not_true_eq_false, not_false_eq_true]
    all_goals simp
  · exact ⟨by omega, Later.refl _, own_nil _ _ _ _⟩
  rintro ⟨i, v⟩ uu w0 ⟨hi, hl, ho⟩
  dsimp only at hi ho
  have hlt : x / 2 ^ i ≤ x := Nat.div_le_self _ _
  have hlen : ((bitsOf x i).map bu).length = i := by rw [List.length_map, bitsOf_len]
  obtain ⟨o, c, rfl⟩ := ho.slice
  rw [hlen] at ho ⊢
  have hb := shr_bit x i
  have hbb : (x.testBit i).toNat ≤ 1 := by cases x.testBit i <;> simp
  generalize hq : x / 2 ^ i = q at *
  have hq2 : x / 2 ^ (i + 1) = q / 2 := by rw [Nat.pow_succ, ← Nat.div_div_eq_div_mul, hq]
  have hb2 : (q : Int) % 2 = ((x.testBit i).toNat : Int) := by omega
  have hq3 : (x : Int) / 2 ^ (i + 1) = (q : Int) / 2 := by
    have := congrArg (Nat.cast : Nat → Int) hq2
    rw [Int.natCast_ediv, Int.natCast_pow, Int.natCast_ediv] at this
    exact this
  have ho' := ho
  unfold OwnB at ho'
  rw [hlen] at ho'
  repeat' (first | (simp (disch := omega) only [push_cast, ↓reduceIte, Nat.reduceEqDiff, Int.reduceToNat, Nat.reducePow, Int.reducePow, Int.reduceNeg, Nat.reduceMul, Int.reduceMul, Int.reduceAdd, Int.reduceSub, Nat.reduceAdd, Nat.reduceSub, Nat.reduceLeDiff, Int.reduceLT, Int.reduceLE, Int.reduceEq, Int.reduceMod, Int.reduceDiv, reduceCtorEq, not_true_eq_false, not_false_eq_true, hb2]) | refine vIfE_of (fun _ => ?_) (fun _ => ?_) | refine vIfD_of (fun _ => ?_) (fun _ => ?_) | refine vIfQ_of (fun _ => ?_) (fun _ => ?_) | refine vIfV_of (fun _ => ?_) (fun _ => ?_) | refine And.intro (by omega) ?_ | refine drawn_q ?_ | fail)
  · refine vAppend_one Try.underlying36 ti5 rfl (n := i) ho' rfl (by unfold maxLen; omega) (by omega) hl.size ?_
    intro v' w' h1 h2
    repeat' (first | (simp (disch := omega) only [push_cast, ↓reduceIte, Nat.reduceEqDiff, Int.reduceToNat, Nat.reducePow, Int.reducePow, Int.reduceNeg, Nat.reduceMul, Int.reduceMul, Int.reduceAdd, Int.reduceSub, Nat.reduceAdd, Nat.reduceSub, Nat.reduceLeDiff, Int.reduceLT, Int.reduceLE, Int.reduceEq, Int.reduceMod, Int.reduceDiv, reduceCtorEq, not_true_eq_false, not_false_eq_true]) | refine vIfE_of (fun _ => ?_) (fun _ => ?_) | refine vIfD_of (fun _ => ?_) (fun _ => ?_) | refine vIfQ_of (fun _ => ?_) (fun _ => ?_) | refine vIfV_of (fun _ => ?_) (fun _ => ?_) | refine And.intro (by omega) ?_ | refine drawn_q ?_ | fail)
    refine ⟨rfl, (i + 1, v'), by simp (disch := omega) only [push_cast, ↓reduceIte, Nat.reduceEqDiff, Int.reduceToNat, Nat.reducePow, Int.reducePow, Int.reduceNeg, Nat.reduceMul, Int.reduceMul, Int.reduceAdd, Int.reduceSub, Nat.reduceAdd, Nat.reduceSub, Nat.reduceLeDiff, Int.reduceLT, Int.reduceLE, Int.reduceEq, Int.reduceMod, Int.reduceDiv, reduceCtorEq, not_true_eq_false, not_false_eq_true, hq3], ⟨by dsimp only; omega, h2 _ hl (Nat.le_refl _), ?_⟩, by simp; omega⟩
    dsimp only
    rw [bitsOf_succ]; exact bits_own h1
  · have e : i = n := by omega
    subst e
    exact ⟨ho, hl⟩
/-- The state of Pack. -/
def St (w : World) (ko ka kb n : Nat) (bs : List Bool) : Prop :=
  Blk w ko #[.slice (some ⟨kb, 0, none⟩) n n] 36 ∧ Blk w ka #[.int .i64 bs.length] 3 ∧ Blk w kb ((pkN n bs).map u8v).toArray 5 ∧ ko ≠ ka ∧ ko ≠ kb ∧ ka ≠ kb
theorem or_set : ∀ (m : Fin 8) (x : Fin 256) (b : Bool), x.val < 2 ^ m.val → bitI .or .u8 (x.val : Int) (IntKind.u8.wrap ((b.toNat : Int) * 2 ^ m.val)) = ((x.val + b.toNat * 2 ^ m.val : Nat) : Int) := by decide +kernel
theorem or_set_at {m x : Nat} (b : Bool) (hm : m < 8) (hx : x < 2 ^ m) : bitI .or .u8 (x : Int) (IntKind.u8.wrap ((b.toNat : Int) * 2 ^ m)) = ((x + b.toNat * 2 ^ m : Nat) : Int) := by
  have hp : 2 ^ m ≤ 2 ^ 8 := Nat.pow_le_pow_right (by omega) (by omega)
  exact or_set ⟨m, hm⟩ ⟨x, by omega⟩ b hx
theorem set_lt {m x : Nat} (b : Bool) (hm : m < 8) (hx : x < 2 ^ m) : x + b.toNat * 2 ^ m < 256 := by
  have hp : 2 ^ (m + 1) ≤ 2 ^ 8 := Nat.pow_le_pow_right (by omega) (by omega)
  rw [Nat.pow_succ] at hp
  cases b <;> simp <;> omega
set_option maxRecDepth 100000 in
theorem set_c (b : Bool) (ko ka kb n : Nat) (bs : List Bool) (w : World) (h : St w ko ka kb n bs) (hb : bs.length < 8 * n) (hn : n ≤ 600000) :
    FnC Try.prog 68 #[.int .u64 (b.toNat : Int), .pointer (some ⟨ko, 0, none⟩), .pointer (some ⟨ka, 0, none⟩)] w fun _ w' => St w' ko ka kb n (bs ++ [b]) ∧ Chg w w' [ka, kb] := by
  obtain ⟨h1, h2, h3, d1, d2, d3⟩ := h
  refine enter68 _ _ _ ?_
  unfold B68
  have c1 := h1.cell 0
  have c2 := h2.cell 0
  have c3 := h3.cell (bs.length / 8)
  have hlow := byteAt_low bs
  have hk : bs.length / 8 < n := by omega
  have hor := or_set_at b (m := bs.length % 8) (x := byteAt bs (bs.length / 8)) (by omega) hlow
  have hlt := set_lt b (m := bs.length % 8) (x := byteAt bs (bs.length / 8)) (by omega) hlow
  have c3' : w.cell? ⟨kb, bs.length / 8, none⟩ = some (.int .u8 (byteAt bs (bs.length / 8))) := by
    rw [c3]; simp [pkN_get _ _ _ hk, u8v_nat (byteAt_lt bs _)]
  repeat' (first | (simp (disch := omega) only [push_cast, ↓reduceIte, Nat.reduceEqDiff, Int.reduceToNat, Nat.reducePow, Int.reducePow, Int.reduceNeg, Nat.reduceMul, Int.reduceMul, Int.reduceAdd, Int.reduceSub, Nat.reduceAdd, Nat.reduceSub, Nat.reduceLeDiff, Int.reduceLT, Int.reduceLE, Int.reduceEq, Int.reduceMod, Int.reduceDiv, reduceCtorEq, not_true_eq_false, not_false_eq_true]) | refine vIfE_of (fun _ => ?_) (fun _ => ?_) | refine vIfD_of (fun _ => ?_) (fun _ => ?_) | refine vIfQ_of (fun _ => ?_) (fun _ => ?_) | refine vIfV_of (fun _ => ?_) (fun _ => ?_) | refine And.intro (by omega) ?_ | fail)
  refine drawn_l ?_
  have e1 : ((bs.length : Int) / 8).toNat = bs.length / 8 := by omega
  have e2 : ((bs.length : Int) % 8).toNat = bs.length % 8 := by omega
  have e4 : IntKind.u8.wrap (b.toNat : Int) = (b.toNat : Int) := by cases b <;> rfl
  have hps := pkN_snoc n bs b
  generalize byteAt bs (bs.length / 8) + b.toNat * 2 ^ (bs.length % 8) = X at *
  repeat' (first | (simp (disch := omega) only [push_cast, ↓reduceIte, Nat.reduceEqDiff, Int.reduceToNat, Nat.reducePow, Int.reducePow, Int.reduceNeg, Nat.reduceMul, Int.reduceMul, Int.reduceAdd, Int.reduceSub, Nat.reduceAdd, Nat.reduceSub, Nat.reduceLeDiff, Int.reduceLT, Int.reduceLE, Int.reduceEq, Int.reduceMod, Int.reduceDiv, reduceCtorEq, not_true_eq_false, not_false_eq_true, c1, c2, c3', addr_add_eq, Nat.zero_add, e1, e2, e4, hor]) | refine vIfE_of (fun _ => ?_) (fun _ => ?_) | refine vIfD_of (fun _ => ?_) (fun _ => ?_) | refine vIfQ_of (fun _ => ?_) (fun _ => ?_) | refine vIfV_of (fun _ => ?_) (fun _ => ?_) | refine And.intro (by omega) ?_ | fail)
  intro w1 hl1
  have g1 : Chg w w1 [] := Chg.of_later hl1
  have b1 := h1.chg g1 (by simp)
  have b2 := h2.chg g1 (by simp)
  have b3 := h3.chg g1 (by simp)
  have b3' := b3.setL (i := bs.length / 8) (u8v (UInt8.ofNat X))
  rw [← List.map_set, ← hps, u8v_nat hlt] at b3'
  repeat' (first | (simp (disch := omega) only [push_cast, ↓reduceIte, Nat.reduceEqDiff, Int.reduceToNat, Nat.reducePow, Int.reducePow, Int.reduceNeg, Nat.reduceMul, Int.reduceMul, Int.reduceAdd, Int.reduceSub, Nat.reduceAdd, Nat.reduceSub, Nat.reduceLeDiff, Int.reduceLT, Int.reduceLE, Int.reduceEq, Int.reduceMod, Int.reduceDiv, reduceCtorEq, not_true_eq_false, not_false_eq_true]) | refine vIfE_of (fun _ => ?_) (fun _ => ?_) | refine vIfD_of (fun _ => ?_) (fun _ => ?_) | refine vIfQ_of (fun _ => ?_) (fun _ => ?_) | refine vIfV_of (fun _ => ?_) (fun _ => ?_) | refine And.intro (by omega) ?_ | fail)
  refine ⟨⟨_, hl1.cell c3'⟩, b3.frozen _, ?_⟩
  have g2 : Chg w1 (w1.setCell ⟨kb, bs.length / 8, none⟩ (.int .u8 X)) [kb] := chg_setCell w1 (by simp) _
  generalize w1.setCell ⟨kb, bs.length / 8, none⟩ (.int .u8 X) = w2 at *
  have b1 := b1.chg g2 (by simpa using d2)
  have b2 := b2.chg g2 (by simpa using d3)
  have c2 : w2.cell? ⟨ka, 0, none⟩ = some (.int .i64 bs.length) := b2.cell 0
  repeat' (first | (simp (disch := omega) only [push_cast, ↓reduceIte, Nat.reduceEqDiff, Int.reduceToNat, Nat.reducePow, Int.reducePow, Int.reduceNeg, Nat.reduceMul, Int.reduceMul, Int.reduceAdd, Int.reduceSub, Nat.reduceAdd, Nat.reduceSub, Nat.reduceLeDiff, Int.reduceLT, Int.reduceLE, Int.reduceEq, Int.reduceMod, Int.reduceDiv, reduceCtorEq, not_true_eq_false, not_false_eq_true, c2]) | refine vIfE_of (fun _ => ?_) (fun _ => ?_) | refine vIfD_of (fun _ => ?_) (fun _ => ?_) | refine vIfQ_of (fun _ => ?_) (fun _ => ?_) | refine vIfV_of (fun _ => ?_) (fun _ => ?_) | refine And.intro (by omega) ?_ | fail)
  have g3 : Chg w2 (w2.setCell ⟨ka, 0, none⟩ (.int .i64 ((bs.length : Int) + 1))) [ka] := chg_setCell w2 (by simp) _
  have b2' := b2.set 0 (.int .i64 ((bs.length : Int) + 1))
  refine ⟨b2.frozen 0, ⟨b1.chg g3 (by simpa using d1), ?_, b3'.chg g3 (by simpa using fun e => d3 e.symm), d1, d2, d3⟩, ?_⟩
  · simpa using b2'
  · exact ((g1.mono (by simp)).trans (g2.mono (by simp))).trans (g3.mono (by simp))
end Go.Proofs.Ytdfdohajjgjbdaa
