/- The contracts of blocks, the program's and the document's. -/
import Derived.Test.YtkchefbnamiikaaChk1
import Derived.Test.YtkchefbnamiikaaZig7
set_option linter.unusedSimpArgs false
namespace Go.Proofs.Ytkchefbnamiikaa
open Go.Vc Go.Chk Go.Zig
theorem own8_of {w : World} {B : Nat} {e : TypeId} {v : Value} {l : List UInt8} {n : Nat} (h : w.ownsRow B e 1 v n (l.map u8v)) : OwnB w B e v l := by
  have := own_n h
  unfold OwnB
  rw [this] at h
  simpa using h
theorem sl8_n {w : World} {v : Value} {l : List UInt8} (h : Sl w v (l.map u8v)) : SlN w 1 v l.length (l.map u8v) := by simpa [Sl] using h
theorem own8_app {w : World} {B : Nat} {e : TypeId} {v : Value} {a b : List UInt8} {n : Nat} (h : w.ownsRow B e 1 v n (a.map u8v ++ b.map u8v)) : OwnB w B e v (a ++ b) := own8_of (n := n) (by rw [List.map_append]; exact h)
theorem u8_wrap (n : Nat) : Value.int .u8 (IntKind.u8.wrap (n : Int)) = u8v (UInt8.ofNat n) := by
  unfold u8v
  rw [UInt8.toNat_ofNat', IntKind.wrap_u8]; congr 1
theorem four_map (s : Nat) (h : s < 4294967296) : (four s).map u8v = [.int .u8 ((s : Int) / 16777216), .int .u8 (IntKind.u8.wrap ((s : Int) / 65536)), .int .u8 (IntKind.u8.wrap ((s : Int) / 256)), .int .u8 (IntKind.u8.wrap (s : Int))] := by
  have e1 : IntKind.u8.wrap ((s / 16777216 : Nat) : Int) = (s : Int) / 16777216 := by rw [IntKind.wrap_u8]; omega
  have e2 : ((s / 65536 : Nat) : Int) = (s : Int) / 65536 := by omega
  have e3 : ((s / 256 : Nat) : Int) = (s : Int) / 256 := by omega
  simp only [four, List.map_cons, List.map_nil, ← u8_wrap, e1, e2, e3]
theorem four_c (s : Nat) (w : World) (h : s < 4294967296) : FnC Try.prog 42 #[.int .u32 s] w fun v w' => OwnB w' w.heap.size 5 v (four s) ∧ Later w w' := by
  refine enter42 _ ?_
  unfold B42
  have hm := four_map s h
  repeat' (first | (simp (disch := omega) only [push_cast, ↓reduceIte, Nat.reduceEqDiff, Int.reduceToNat, Nat.reducePow, Int.reducePow, Int.reduceNeg, Nat.reduceMul, Int.reduceMul, Int.reduceAdd, Int.reduceSub, Nat.reduceAdd, Nat.reduceSub, Nat.reduceLeDiff, Int.reduceLT, Int.reduceLE, Int.reduceEq, Int.reduceMod, Int.reduceDiv, reduceCtorEq, not_true_eq_false, not_false_eq_true]) | refine vIfE_of (fun _ => ?_) (fun _ => ?_) | refine vIfD_of (fun _ => ?_) (fun _ => ?_) | refine vIfQ_of (fun _ => ?_) (fun _ => ?_) | refine vIfV_of (fun _ => ?_) (fun _ => ?_) | refine And.intro (by omega) ?_ | refine drawn_q ?_ | fail)
  refine ⟨?_, later_alloc _ _⟩
  have := own_lit w ((four s).map u8v) 5 1 4 rfl (by unfold maxLen; omega) (Nat.le_refl _)
  unfold OwnB
  rw [hm] at this ⊢
  exact this
/-- bytes.Equal. -/
theorem equal_c (x y : Value) (a b : List UInt8) (w : World) (hx : Sl w x (a.map u8v)) (hy : Sl w y (b.map u8v)) : FnC Try.prog 39 #[x, y] w fun v w' => v = .bool (decide (a = b)) ∧ w' = w := by
  obtain ⟨ox, cx, rfl⟩ := hx.slice
  obtain ⟨oy, cy, rfl⟩ := hy.slice
  refine enter39 _ _ ?_
  unfold B39
  repeat' (first | (simp (disch := omega) only [push_cast, ↓reduceIte, Nat.reduceEqDiff, Int.reduceToNat, Nat.reducePow, Int.reducePow, Int.reduceNeg, Nat.reduceMul, Int.reduceMul, Int.reduceAdd, Int.reduceSub, Nat.reduceAdd, Nat.reduceSub, Nat.reduceLeDiff, Int.reduceLT, Int.reduceLE, Int.reduceEq, Int.reduceMod, Int.reduceDiv, reduceCtorEq, not_true_eq_false, not_false_eq_true]) | refine vIfE_of (fun _ => ?_) (fun _ => ?_) | refine vIfD_of (fun _ => ?_) (fun _ => ?_) | refine vIfQ_of (fun _ => ?_) (fun _ => ?_) | refine vIfV_of (fun _ => ?_) (fun _ => ?_) | refine And.intro (by omega) ?_ | refine drawn_q ?_ | fail)
  refine vConv_bytes Try.underlying24 Try.underlying9 Try.underlying5 hx ?_
  repeat' (first | (simp (disch := omega) only [push_cast, ↓reduceIte, Nat.reduceEqDiff, Int.reduceToNat, Nat.reducePow, Int.reducePow, Int.reduceNeg, Nat.reduceMul, Int.reduceMul, Int.reduceAdd, Int.reduceSub, Nat.reduceAdd, Nat.reduceSub, Nat.reduceLeDiff, Int.reduceLT, Int.reduceLE, Int.reduceEq, Int.reduceMod, Int.reduceDiv, reduceCtorEq, not_true_eq_false, not_false_eq_true]) | refine vIfE_of (fun _ => ?_) (fun _ => ?_) | refine vIfD_of (fun _ => ?_) (fun _ => ?_) | refine vIfQ_of (fun _ => ?_) (fun _ => ?_) | refine vIfV_of (fun _ => ?_) (fun _ => ?_) | refine And.intro (by omega) ?_ | refine drawn_q ?_ | fail)
  refine vConv_bytes Try.underlying24 Try.underlying9 Try.underlying5 hy ?_
  repeat' (first | (simp (disch := omega) only [push_cast, ↓reduceIte, Nat.reduceEqDiff, Int.reduceToNat, Nat.reducePow, Int.reducePow, Int.reduceNeg, Nat.reduceMul, Int.reduceMul, Int.reduceAdd, Int.reduceSub, Nat.reduceAdd, Nat.reduceSub, Nat.reduceLeDiff, Int.reduceLT, Int.reduceLE, Int.reduceEq, Int.reduceMod, Int.reduceDiv, reduceCtorEq, not_true_eq_false, not_false_eq_true, strOf_inj]) | refine vIfE_of (fun _ => ?_) (fun _ => ?_) | refine vIfD_of (fun _ => ?_) (fun _ => ?_) | refine vIfQ_of (fun _ => ?_) (fun _ => ?_) | refine vIfV_of (fun _ => ?_) (fun _ => ?_) | refine And.intro (by omega) ?_ | refine drawn_q ?_ | fail)
/-- What Block answers. -/
def Blocked (w : World) (B : Nat) (r : Value) (l : List UInt8) : Prop := (16777216 < l.length ∧ r = .tuple #[.slice none 0 0, .int .i64 21]) ∨ (l.length ≤ 16777216 ∧ ∃ x, r = .tuple #[x, .int .i64 0] ∧ OwnB w B 5 x (blkB l))
set_option maxRecDepth 100000 in
theorem block_c (v : Value) (l : List UInt8) (w : World) (h : Sl w v (l.map u8v)) : FnC Try.prog 25 #[v] w fun r w' => Blocked w' w.heap.size r l ∧ Later w w' := by
  have hs := h
  obtain ⟨o, c, rfl, g1, g2, h, g3⟩ := h.openM
  refine enter25 _ ?_
  unfold B25
  by_cases hl : 16777216 < l.length
  · repeat' (first | (simp (disch := omega) only [push_cast, ↓reduceIte, Nat.reduceEqDiff, Int.reduceToNat, Nat.reducePow, Int.reducePow, Int.reduceNeg, Nat.reduceMul, Int.reduceMul, Int.reduceAdd, Int.reduceSub, Nat.reduceAdd, Nat.reduceSub, Nat.reduceLeDiff, Int.reduceLT, Int.reduceLE, Int.reduceEq, Int.reduceMod, Int.reduceDiv, reduceCtorEq, not_true_eq_false, not_false_eq_true]) | refine vIfE_of (fun _ => ?_) (fun _ => ?_) | refine vIfD_of (fun _ => ?_) (fun _ => ?_) | refine vIfQ_of (fun _ => ?_) (fun _ => ?_) | refine vIfV_of (fun _ => ?_) (fun _ => ?_) | refine And.intro (by omega) ?_ | refine drawn_q ?_ | fail)
    exact ⟨.inl ⟨hl, rfl⟩, Later.refl _⟩
  repeat' (first | (simp (disch := omega) only [push_cast, ↓reduceIte, Nat.reduceEqDiff, Int.reduceToNat, Nat.reducePow, Int.reducePow, Int.reduceNeg, Nat.reduceMul, Int.reduceMul, Int.reduceAdd, Int.reduceSub, Nat.reduceAdd, Nat.reduceSub, Nat.reduceLeDiff, Int.reduceLT, Int.reduceLE, Int.reduceEq, Int.reduceMod, Int.reduceDiv, reduceCtorEq, not_true_eq_false, not_false_eq_true]) | refine vIfE_of (fun _ => ?_) (fun _ => ?_) | refine vIfD_of (fun _ => ?_) (fun _ => ?_) | refine vIfQ_of (fun _ => ?_) (fun _ => ?_) | refine vIfV_of (fun _ => ?_) (fun _ => ?_) | refine And.intro (by omega) ?_ | refine drawn_q ?_ | fail)
  have h64 : I64 (l.length : Int) := by unfold I64; omega
  have hz := zi_len h64
  refine (zInt_c (.slice none 0 0) [] l.length w h64 (Sl.nil _) (by simp)).mono ?_
  rintro x w1 ⟨hx, hl1⟩
  have hx := own8_of (l := zi l.length) hx
  obtain ⟨ox, cx, rfl⟩ := hx.slice
  repeat' (first | (simp (disch := omega) only [push_cast, ↓reduceIte, Nat.reduceEqDiff, Int.reduceToNat, Nat.reducePow, Int.reducePow, Int.reduceNeg, Nat.reduceMul, Int.reduceMul, Int.reduceAdd, Int.reduceSub, Nat.reduceAdd, Nat.reduceSub, Nat.reduceLeDiff, Int.reduceLT, Int.reduceLE, Int.reduceEq, Int.reduceMod, Int.reduceDiv, reduceCtorEq, not_true_eq_false, not_false_eq_true]) | refine vIfE_of (fun _ => ?_) (fun _ => ?_) | refine vIfD_of (fun _ => ?_) (fun _ => ?_) | refine vIfQ_of (fun _ => ?_) (fun _ => ?_) | refine vIfV_of (fun _ => ?_) (fun _ => ?_) | refine And.intro (by omega) ?_ | refine drawn_q ?_ | fail)
  refine vAppend_own Try.underlying24 ti5 rfl (by decide) hx (sl8_n (hs.later hl1)) (u8vs_one _) (by unfold maxLen; omega) (by omega) hl1.size ?_
  intro y w2 hy gy _
  have hl2 := hl1.appended hx (Nat.le_refl _) gy
  have hy := own8_app hy
  obtain ⟨oy, cy, rfl⟩ := hy.slice
  repeat' (first | (simp (disch := omega) only [push_cast, ↓reduceIte, Nat.reduceEqDiff, Int.reduceToNat, Nat.reducePow, Int.reducePow, Int.reduceNeg, Nat.reduceMul, Int.reduceMul, Int.reduceAdd, Int.reduceSub, Nat.reduceAdd, Nat.reduceSub, Nat.reduceLeDiff, Int.reduceLT, Int.reduceLE, Int.reduceEq, Int.reduceMod, Int.reduceDiv, reduceCtorEq, not_true_eq_false, not_false_eq_true]) | refine vIfE_of (fun _ => ?_) (fun _ => ?_) | refine vIfD_of (fun _ => ?_) (fun _ => ?_) | refine vIfQ_of (fun _ => ?_) (fun _ => ?_) | refine vIfV_of (fun _ => ?_) (fun _ => ?_) | refine And.intro (by omega) ?_ | refine drawn_q ?_ | fail)
  refine (sum_c _ (zi l.length ++ l) w2 hy.sl).mono ?_
  rintro _ w3 ⟨rfl, hl3⟩
  have hs32 := sum_lt (zi l.length ++ l)
  have hlen : (zi (l.length : Int) ++ l).length ≤ 20000000 := by rw [List.length_append]; omega
  have hbk : blkB l = zi l.length ++ l ++ four (sum (zi l.length ++ l)) := rfl
  generalize zi (l.length : Int) ++ l = q at *
  repeat' (first | (simp (disch := omega) only [push_cast, ↓reduceIte, Nat.reduceEqDiff, Int.reduceToNat, Nat.reducePow, Int.reducePow, Int.reduceNeg, Nat.reduceMul, Int.reduceMul, Int.reduceAdd, Int.reduceSub, Nat.reduceAdd, Nat.reduceSub, Nat.reduceLeDiff, Int.reduceLT, Int.reduceLE, Int.reduceEq, Int.reduceMod, Int.reduceDiv, reduceCtorEq, not_true_eq_false, not_false_eq_true]) | refine vIfE_of (fun _ => ?_) (fun _ => ?_) | refine vIfD_of (fun _ => ?_) (fun _ => ?_) | refine vIfQ_of (fun _ => ?_) (fun _ => ?_) | refine vIfV_of (fun _ => ?_) (fun _ => ?_) | refine And.intro (by omega) ?_ | refine drawn_q ?_ | fail)
  refine (four_c (sum q) w3 hs32).mono ?_
  rintro z w4 ⟨hz4, hl4⟩
  have hl34 := hl3.trans hl4
  have hy4 := hy.later hl34
  have hlw := hl2.trans hl34
  repeat' (first | (simp (disch := omega) only [push_cast, ↓reduceIte, Nat.reduceEqDiff, Int.reduceToNat, Nat.reducePow, Int.reducePow, Int.reduceNeg, Nat.reduceMul, Int.reduceMul, Int.reduceAdd, Int.reduceSub, Nat.reduceAdd, Nat.reduceSub, Nat.reduceLeDiff, Int.reduceLT, Int.reduceLE, Int.reduceEq, Int.reduceMod, Int.reduceDiv, reduceCtorEq, not_true_eq_false, not_false_eq_true]) | refine vIfE_of (fun _ => ?_) (fun _ => ?_) | refine vIfD_of (fun _ => ?_) (fun _ => ?_) | refine vIfQ_of (fun _ => ?_) (fun _ => ?_) | refine vIfV_of (fun _ => ?_) (fun _ => ?_) | refine And.intro (by omega) ?_ | refine drawn_q ?_ | fail)
  refine vAppend_own Try.underlying24 ti5 rfl (by decide) hy4 (sl8_n hz4.sl) (u8vs_one _) (by unfold maxLen; rw [four_len]; omega) (by rw [four_len]; omega) hlw.size ?_
  intro u w5 hu gu _
  have hl5 := hlw.appended hy4 (Nat.le_refl _) gu
  have hu := own8_app hu
  repeat' (first | (simp (disch := omega) only [push_cast, ↓reduceIte, Nat.reduceEqDiff, Int.reduceToNat, Nat.reducePow, Int.reducePow, Int.reduceNeg, Nat.reduceMul, Int.reduceMul, Int.reduceAdd, Int.reduceSub, Nat.reduceAdd, Nat.reduceSub, Nat.reduceLeDiff, Int.reduceLT, Int.reduceLE, Int.reduceEq, Int.reduceMod, Int.reduceDiv, reduceCtorEq, not_true_eq_false, not_false_eq_true]) | refine vIfE_of (fun _ => ?_) (fun _ => ?_) | refine vIfD_of (fun _ => ?_) (fun _ => ?_) | refine vIfQ_of (fun _ => ?_) (fun _ => ?_) | refine vIfV_of (fun _ => ?_) (fun _ => ?_) | refine And.intro (by omega) ?_ | refine drawn_q ?_ | fail)
  refine ⟨.inr ⟨by omega, u, rfl, ?_⟩, hl5⟩
  rw [hbk]; exact hu
set_option maxRecDepth 100000 in
theorem rBlock_c (v : Value) (l : List UInt8) (w : World) (h : Sl w v (l.map u8v)) : FnC Try.prog 29 #[v] w fun r w' => Blocked w' w.heap.size r l ∧ Later w w' := by
  have hs := h
  obtain ⟨o, c, rfl, g1, g2, h, g3⟩ := h.openM
  refine enter29 _ ?_
  unfold B29
  by_cases hl : 16777216 < l.length
  · repeat' (first | (simp (disch := omega) only [push_cast, ↓reduceIte, Nat.reduceEqDiff, Int.reduceToNat, Nat.reducePow, Int.reducePow, Int.reduceNeg, Nat.reduceMul, Int.reduceMul, Int.reduceAdd, Int.reduceSub, Nat.reduceAdd, Nat.reduceSub, Nat.reduceLeDiff, Int.reduceLT, Int.reduceLE, Int.reduceEq, Int.reduceMod, Int.reduceDiv, reduceCtorEq, not_true_eq_false, not_false_eq_true]) | refine vIfE_of (fun _ => ?_) (fun _ => ?_) | refine vIfD_of (fun _ => ?_) (fun _ => ?_) | refine vIfQ_of (fun _ => ?_) (fun _ => ?_) | refine vIfV_of (fun _ => ?_) (fun _ => ?_) | refine And.intro (by omega) ?_ | refine drawn_q ?_ | fail)
    exact ⟨.inl ⟨hl, rfl⟩, Later.refl _⟩
  repeat' (first | (simp (disch := omega) only [push_cast, ↓reduceIte, Nat.reduceEqDiff, Int.reduceToNat, Nat.reducePow, Int.reducePow, Int.reduceNeg, Nat.reduceMul, Int.reduceMul, Int.reduceAdd, Int.reduceSub, Nat.reduceAdd, Nat.reduceSub, Nat.reduceLeDiff, Int.reduceLT, Int.reduceLE, Int.reduceEq, Int.reduceMod, Int.reduceDiv, reduceCtorEq, not_true_eq_false, not_false_eq_true]) | refine vIfE_of (fun _ => ?_) (fun _ => ?_) | refine vIfD_of (fun _ => ?_) (fun _ => ?_) | refine vIfQ_of (fun _ => ?_) (fun _ => ?_) | refine vIfV_of (fun _ => ?_) (fun _ => ?_) | refine And.intro (by omega) ?_ | refine drawn_q ?_ | fail)
  have h64 : I64 (l.length : Int) := by unfold I64; omega
  have hz := zi_len h64
  refine (rInt_c l.length w h64).mono ?_
  rintro x w1 ⟨hx, hl1⟩
  obtain ⟨ox, cx, rfl⟩ := hx.slice
  repeat' (first | (simp (disch := omega) only [push_cast, ↓reduceIte, Nat.reduceEqDiff, Int.reduceToNat, Nat.reducePow, Int.reducePow, Int.reduceNeg, Nat.reduceMul, Int.reduceMul, Int.reduceAdd, Int.reduceSub, Nat.reduceAdd, Nat.reduceSub, Nat.reduceLeDiff, Int.reduceLT, Int.reduceLE, Int.reduceEq, Int.reduceMod, Int.reduceDiv, reduceCtorEq, not_true_eq_false, not_false_eq_true]) | refine vIfE_of (fun _ => ?_) (fun _ => ?_) | refine vIfD_of (fun _ => ?_) (fun _ => ?_) | refine vIfQ_of (fun _ => ?_) (fun _ => ?_) | refine vIfV_of (fun _ => ?_) (fun _ => ?_) | refine And.intro (by omega) ?_ | refine drawn_q ?_ | fail)
  refine vAppend_own Try.underlying24 ti5 rfl (by decide) hx (sl8_n (hs.later hl1)) (u8vs_one _) (by unfold maxLen; omega) (by omega) hl1.size ?_
  intro y w2 hy gy _
  have hl2 := hl1.appended hx (Nat.le_refl _) gy
  have hy := own8_app hy
  obtain ⟨oy, cy, rfl⟩ := hy.slice
  repeat' (first | (simp (disch := omega) only [push_cast, ↓reduceIte, Nat.reduceEqDiff, Int.reduceToNat, Nat.reducePow, Int.reducePow, Int.reduceNeg, Nat.reduceMul, Int.reduceMul, Int.reduceAdd, Int.reduceSub, Nat.reduceAdd, Nat.reduceSub, Nat.reduceLeDiff, Int.reduceLT, Int.reduceLE, Int.reduceEq, Int.reduceMod, Int.reduceDiv, reduceCtorEq, not_true_eq_false, not_false_eq_true]) | refine vIfE_of (fun _ => ?_) (fun _ => ?_) | refine vIfD_of (fun _ => ?_) (fun _ => ?_) | refine vIfQ_of (fun _ => ?_) (fun _ => ?_) | refine vIfV_of (fun _ => ?_) (fun _ => ?_) | refine And.intro (by omega) ?_ | refine drawn_q ?_ | fail)
  refine (rSum_c _ (zi l.length ++ l) w2 hy.sl).mono ?_
  rintro _ w3 ⟨rfl, hw⟩
  obtain rfl := hw.symm
  have hs32 := sum_lt (zi l.length ++ l)
  have hlen : (zi (l.length : Int) ++ l).length ≤ 20000000 := by rw [List.length_append]; omega
  have hbk : blkB l = zi l.length ++ l ++ four (sum (zi l.length ++ l)) := rfl
  generalize zi (l.length : Int) ++ l = q at *
  have hm := four_map (sum q) hs32
  have hl3 := later_alloc w2 (.cells ((four (sum q)).map u8v).toArray 5)
  have hlit := SlN.lit w2 ((four (sum q)).map u8v) 5 1 4 rfl (by unfold maxLen; omega)
  rw [hm] at hl3 hlit
  repeat' (first | (simp (disch := omega) only [push_cast, ↓reduceIte, Nat.reduceEqDiff, Int.reduceToNat, Nat.reducePow, Int.reducePow, Int.reduceNeg, Nat.reduceMul, Int.reduceMul, Int.reduceAdd, Int.reduceSub, Nat.reduceAdd, Nat.reduceSub, Nat.reduceLeDiff, Int.reduceLT, Int.reduceLE, Int.reduceEq, Int.reduceMod, Int.reduceDiv, reduceCtorEq, not_true_eq_false, not_false_eq_true]) | refine vIfE_of (fun _ => ?_) (fun _ => ?_) | refine vIfD_of (fun _ => ?_) (fun _ => ?_) | refine vIfQ_of (fun _ => ?_) (fun _ => ?_) | refine vIfV_of (fun _ => ?_) (fun _ => ?_) | refine And.intro (by omega) ?_ | refine drawn_q ?_ | fail)
  refine vAppend_own Try.underlying24 ti5 rfl (by decide) (own_later hy hl3) hlit (by rw [← hm]; exact u8vs_one _) (by unfold maxLen; omega) (by omega) (hl2.trans hl3).size ?_
  intro u w5 hu gu _
  have hl5 := (hl2.trans hl3).appended (own_later hy hl3) (Nat.le_refl _) gu
  rw [← hm] at hu
  have hu := own8_app hu
  repeat' (first | (simp (disch := omega) only [push_cast, ↓reduceIte, Nat.reduceEqDiff, Int.reduceToNat, Nat.reducePow, Int.reducePow, Int.reduceNeg, Nat.reduceMul, Int.reduceMul, Int.reduceAdd, Int.reduceSub, Nat.reduceAdd, Nat.reduceSub, Nat.reduceLeDiff, Int.reduceLT, Int.reduceLE, Int.reduceEq, Int.reduceMod, Int.reduceDiv, reduceCtorEq, not_true_eq_false, not_false_eq_true]) | refine vIfE_of (fun _ => ?_) (fun _ => ?_) | refine vIfD_of (fun _ => ?_) (fun _ => ?_) | refine vIfQ_of (fun _ => ?_) (fun _ => ?_) | refine vIfV_of (fun _ => ?_) (fun _ => ?_) | refine And.intro (by omega) ?_ | refine drawn_q ?_ | fail)
  refine ⟨.inr ⟨by omega, u, rfl, ?_⟩, hl5⟩
  rw [hbk]; exact hu
/-! ### the first block -/
theorem rI_zero (l : List UInt8) : ((num l = none ∨ ∃ u k, num l = some (u, k) ∧ (unfoldI u < 0 ∨ 16777216 < unfoldI u)) ∧ rI l 0 16777216 = (0, 11, l)) ∨
    ∃ u k n, num l = some (u, k) ∧ unfoldI u = ((n : Nat) : Int) ∧ n ≤ 16777216 ∧ rI l 0 16777216 = ((n : Int), 0, l.drop k) ∧ k ≤ l.length := by
  unfold rI
  cases h : num l with
  | none => exact .inl ⟨.inl rfl, rfl⟩
  | some p =>
    obtain ⟨u, k⟩ := p
    by_cases hb : unfoldI u < 0 ∨ 16777216 < unfoldI u
    · simp only [if_pos hb]
      exact .inl ⟨.inr ⟨u, k, rfl, hb⟩, trivial⟩
    · simp only [if_neg hb]
      obtain ⟨n, hn⟩ := Int.eq_ofNat_of_zero_le (show 0 ≤ unfoldI u by omega)
      refine .inr ⟨u, k, n, rfl, hn, by omega, by rw [hn], (num_some h).2.2.1⟩
theorem fst_none' {l : List UInt8} (h : num l = none ∨ ∃ u k, num l = some (u, k) ∧ (unfoldI u < 0 ∨ 16777216 < unfoldI u)) : fst l = none := by
  unfold fst
  rcases h with h | ⟨u, k, h, hb⟩
  · rw [h]
  · rw [h]; simp only [if_pos hb]
/-- How First goes: the length, the bytes, the sum. -/
theorem fst_walk (l : List UInt8) : (fst l = none ∧ ((rI l 0 16777216).2.1 ≠ 0 ∨ (rB (rI l 0 16777216).2.2 (rI l 0 16777216).1).2.1 ≠ 0 ∨ (rB (rB (rI l 0 16777216).2.2 (rI l 0 16777216).1).2.2 4).2.1 ≠ 0)) ∨
    ((rI l 0 16777216).2.1 = 0 ∧ (rB (rI l 0 16777216).2.2 (rI l 0 16777216).1).2.1 = 0 ∧ (rB (rB (rI l 0 16777216).2.2 (rI l 0 16777216).1).2.2 4).2.1 = 0 ∧
      fst l = if (rB (rB (rI l 0 16777216).2.2 (rI l 0 16777216).1).2.2 4).1 = four (sum (l.take (l.length - (rB (rI l 0 16777216).2.2 (rI l 0 16777216).1).2.2.length))) then
        some ((rB (rI l 0 16777216).2.2 (rI l 0 16777216).1).1, l.length - (rB (rI l 0 16777216).2.2 (rI l 0 16777216).1).2.2.length + 4) else none) := by
  rcases rI_zero l with ⟨h, hr⟩ | ⟨u, k, n, h1, h2, h3, hr, hk⟩
  · left
    rw [hr]
    exact ⟨fst_none' h, .inl (by simp)⟩
  · rw [hr]
    simp only
    have hf : fst l = if l.length < k + n + 4 then none else if (l.drop (k + n)).take 4 = four (sum (l.take (k + n))) then some ((l.drop k).take n, k + n + 4) else none := by
      unfold fst
      rw [h1]
      simp only [h2, Int.toNat_natCast]
      rw [if_neg (by omega)]
    by_cases hl : l.length < k + n
    · left
      rw [hf, if_pos (by omega)]
      refine ⟨rfl, .inr (.inl ?_)⟩
      unfold rB
      rw [if_pos (by simp; omega)]; simp
    · have e1 : rB (l.drop k) n = ((l.drop k).take n, 0, l.drop (k + n)) := by
        unfold rB
        rw [if_neg (by simp; omega)]; simp
      rw [e1]
      simp only
      by_cases hl4 : l.length < k + n + 4
      · left
        rw [hf, if_pos hl4]
        refine ⟨rfl, .inr (.inr ?_)⟩
        unfold rB
        rw [if_pos (by simp; omega)]; simp
      · right
        have e2 : rB (l.drop (k + n)) 4 = ((l.drop (k + n)).take 4, 0, (l.drop (k + n)).drop 4) := by
          unfold rB
          rw [if_neg (by simp; omega)]; rfl
        have e3 : l.length - (l.drop (k + n)).length = k + n := by simp; omega
        rw [e2, e3, hf, if_neg hl4]
        exact ⟨by first | trivial | rfl, by first | trivial | rfl, by first | trivial | rfl, rfl⟩
theorem rB_len (l : List UInt8) (n : Int) : (rB l n).2.2.length ≤ l.length := by
  unfold rB; split
  · exact Nat.le_refl _
  · simp
theorem rI_len (l : List UInt8) : (rI l 0 16777216).2.2.length ≤ l.length ∧ 0 ≤ (rI l 0 16777216).1 ∧ (rI l 0 16777216).1 ≤ 16777216 := by
  rcases rI_zero l with ⟨_, h⟩ | ⟨u, k, n, _, _, h3, h, _⟩
  · rw [h]; simp
  · rw [h]; simp; omega
def fsR (l : List UInt8) : List UInt8 × Nat × Int := match fst l with
  | none => ([], 0, 21)
  | some p => (p.1, p.2, 0)
def Firsts (w : World) (B : Nat) (r : Value) (l : List UInt8) : Prop := ∃ x, r = .tuple #[x, .int .i64 (fsR l).2.1, .int .i64 (fsR l).2.2] ∧ OwnB w B 5 x (fsR l).1
theorem fsR_none {l : List UInt8} (h : fst l = none) : fsR l = ([], 0, 21) := by unfold fsR; rw [h]
theorem fsR_some {l : List UInt8} {p : List UInt8 × Nat} (h : fst l = some p) : fsR l = (p.1, p.2, 0) := by unfold fsR; rw [h]
set_option maxRecDepth 100000 in
theorem first_c (v : Value) (l : List UInt8) (w : World) (h : Sl w v (l.map u8v)) (hl : l.length ≤ 140737488355000) : FnC Try.prog 27 #[v] w fun r w' => Firsts w' w.heap.size r l ∧ Later w w' := by
  have hs := h
  obtain ⟨o, c, rfl, g1, g2, h, g3⟩ := h.openM
  refine enter27 _ ?_
  unfold B27
  repeat' (first | (simp (disch := omega) only [push_cast, ↓reduceIte, Nat.reduceEqDiff, Int.reduceToNat, Nat.reducePow, Int.reducePow, Int.reduceNeg, Nat.reduceMul, Int.reduceMul, Int.reduceAdd, Int.reduceSub, Nat.reduceAdd, Nat.reduceSub, Nat.reduceLeDiff, Int.reduceLT, Int.reduceLE, Int.reduceEq, Int.reduceMod, Int.reduceDiv, reduceCtorEq, not_true_eq_false, not_false_eq_true]) | refine vIfE_of (fun _ => ?_) (fun _ => ?_) | refine vIfD_of (fun _ => ?_) (fun _ => ?_) | refine vIfQ_of (fun _ => ?_) (fun _ => ?_) | refine vIfV_of (fun _ => ?_) (fun _ => ?_) | refine And.intro (by omega) ?_ | refine drawn_q ?_ | fail)
  refine (zOpen_c _ l w hs hl).mono ?_
  rintro _ w1 ⟨k, d, rfl, hR, hk, hd, hl1⟩
  repeat' (first | (simp (disch := omega) only [push_cast, ↓reduceIte, Nat.reduceEqDiff, Int.reduceToNat, Nat.reducePow, Int.reducePow, Int.reduceNeg, Nat.reduceMul, Int.reduceMul, Int.reduceAdd, Int.reduceSub, Nat.reduceAdd, Nat.reduceSub, Nat.reduceLeDiff, Int.reduceLT, Int.reduceLE, Int.reduceEq, Int.reduceMod, Int.reduceDiv, reduceCtorEq, not_true_eq_false, not_false_eq_true]) | refine vIfE_of (fun _ => ?_) (fun _ => ?_) | refine vIfD_of (fun _ => ?_) (fun _ => ?_) | refine vIfQ_of (fun _ => ?_) (fun _ => ?_) | refine vIfV_of (fun _ => ?_) (fun _ => ?_) | refine And.intro (by omega) ?_ | refine drawn_q ?_ | fail)
  refine (zRInt_c k d l 0 16777216 w1 hR).mono ?_
  rintro _ w2 ⟨rfl, hR2, gc2⟩
  have hl2 : Later w w2 := gc2.later hl1 (by simpa using hk)
  have hwk := fst_walk l
  have hil := rI_len l
  generalize rI l 0 16777216 = r1 at *
  repeat' (first | (simp (disch := omega) only [push_cast, ↓reduceIte, Nat.reduceEqDiff, Int.reduceToNat, Nat.reducePow, Int.reducePow, Int.reduceNeg, Nat.reduceMul, Int.reduceMul, Int.reduceAdd, Int.reduceSub, Nat.reduceAdd, Nat.reduceSub, Nat.reduceLeDiff, Int.reduceLT, Int.reduceLE, Int.reduceEq, Int.reduceMod, Int.reduceDiv, reduceCtorEq, not_true_eq_false, not_false_eq_true]) | refine vIfE_of (fun _ => ?_) (fun _ => ?_) | refine vIfD_of (fun _ => ?_) (fun _ => ?_) | refine vIfQ_of (fun _ => ?_) (fun _ => ?_) | refine vIfV_of (fun _ => ?_) (fun _ => ?_) | refine And.intro (by omega) ?_ | refine drawn_q ?_ | fail)
  refine (zRBytes_c k d r1.2.2 r1.1 w2 hR2 (by omega)).mono ?_
  rintro _ w3 ⟨x, rfl, hx, hR3, gc3⟩
  have hl3 : Later w w3 := gc3.later hl2 (by simpa using hk)
  have hbl := rB_len r1.2.2 r1.1
  generalize rB r1.2.2 r1.1 = r2 at *
  repeat' (first | (simp (disch := omega) only [push_cast, ↓reduceIte, Nat.reduceEqDiff, Int.reduceToNat, Nat.reducePow, Int.reducePow, Int.reduceNeg, Nat.reduceMul, Int.reduceMul, Int.reduceAdd, Int.reduceSub, Nat.reduceAdd, Nat.reduceSub, Nat.reduceLeDiff, Int.reduceLT, Int.reduceLE, Int.reduceEq, Int.reduceMod, Int.reduceDiv, reduceCtorEq, not_true_eq_false, not_false_eq_true]) | refine vIfE_of (fun _ => ?_) (fun _ => ?_) | refine vIfD_of (fun _ => ?_) (fun _ => ?_) | refine vIfQ_of (fun _ => ?_) (fun _ => ?_) | refine vIfV_of (fun _ => ?_) (fun _ => ?_) | refine And.intro (by omega) ?_ | refine drawn_q ?_ | fail)
  refine (zRLeft_c k d r2.2.2 w3 hR3).mono ?_
  rintro _ w0 ⟨rfl, hw⟩
  obtain rfl := hw.symm
  repeat' (first | (simp (disch := omega) only [push_cast, ↓reduceIte, Nat.reduceEqDiff, Int.reduceToNat, Nat.reducePow, Int.reducePow, Int.reduceNeg, Nat.reduceMul, Int.reduceMul, Int.reduceAdd, Int.reduceSub, Nat.reduceAdd, Nat.reduceSub, Nat.reduceLeDiff, Int.reduceLT, Int.reduceLE, Int.reduceEq, Int.reduceMod, Int.reduceDiv, reduceCtorEq, not_true_eq_false, not_false_eq_true]) | refine vIfE_of (fun _ => ?_) (fun _ => ?_) | refine vIfD_of (fun _ => ?_) (fun _ => ?_) | refine vIfQ_of (fun _ => ?_) (fun _ => ?_) | refine vIfV_of (fun _ => ?_) (fun _ => ?_) | refine And.intro (by omega) ?_ | refine drawn_q ?_ | fail)
  refine (zRBytes_c k d r2.2.2 4 w3 hR3 (by omega)).mono ?_
  rintro _ w4 ⟨y, rfl, hy, hR4, gc4⟩
  have hl4 : Later w w4 := gc4.later hl3 (by simpa using hk)
  generalize rB r2.2.2 4 = r3 at *
  have hk2 : k < w2.heap.size := by obtain ⟨_, _, _, _, _, _, _, h⟩ := hR2; exact h
  have hx4 : OwnB w4 w.heap.size 5 x r2.1 := (OwnB.base (own_chg hx gc4 (by simpa using hk2)) hl2.size : OwnB w4 w.heap.size 5 x r2.1)
  rcases hwk with ⟨hf, hbad⟩ | ⟨q1, q2, q3, hf⟩
  · have hfs := fsR_none hf
    repeat' (first | (simp (disch := omega) only [push_cast, ↓reduceIte, Nat.reduceEqDiff, Int.reduceToNat, Nat.reducePow, Int.reducePow, Int.reduceNeg, Nat.reduceMul, Int.reduceMul, Int.reduceAdd, Int.reduceSub, Nat.reduceAdd, Nat.reduceSub, Nat.reduceLeDiff, Int.reduceLT, Int.reduceLE, Int.reduceEq, Int.reduceMod, Int.reduceDiv, reduceCtorEq, not_true_eq_false, not_false_eq_true]) | refine vIfE_of (fun _ => ?_) (fun _ => ?_) | refine vIfD_of (fun _ => ?_) (fun _ => ?_) | refine vIfQ_of (fun _ => ?_) (fun _ => ?_) | refine vIfV_of (fun _ => ?_) (fun _ => ?_) | refine And.intro (by omega) ?_ | refine drawn_q ?_ | fail)
    all_goals exact ⟨⟨.slice none 0 0, by rw [hfs]; rfl, by rw [hfs]; exact own_nil _ _ _ _⟩, hl4⟩
  · have hat : ((l.length : Int) - (r2.2.2.length : Int)).toNat = l.length - r2.2.2.length := by omega
    have hpre := hs.pre (k := l.length - r2.2.2.length) (by omega)
    rw [← List.map_take] at hpre
    repeat' (first | (simp (disch := omega) only [push_cast, ↓reduceIte, Nat.reduceEqDiff, Int.reduceToNat, Nat.reducePow, Int.reducePow, Int.reduceNeg, Nat.reduceMul, Int.reduceMul, Int.reduceAdd, Int.reduceSub, Nat.reduceAdd, Nat.reduceSub, Nat.reduceLeDiff, Int.reduceLT, Int.reduceLE, Int.reduceEq, Int.reduceMod, Int.reduceDiv, reduceCtorEq, not_true_eq_false, not_false_eq_true, q1, q2, q3, hat]) | refine vIfE_of (fun _ => ?_) (fun _ => ?_) | refine vIfD_of (fun _ => ?_) (fun _ => ?_) | refine vIfQ_of (fun _ => ?_) (fun _ => ?_) | refine vIfV_of (fun _ => ?_) (fun _ => ?_) | refine And.intro (by omega) ?_ | refine drawn_q ?_ | fail)
    refine (sum_c _ _ w4 (hpre.later hl4)).mono ?_
    rintro _ w5 ⟨rfl, hl5⟩
    have hs32 := sum_lt (l.take (l.length - r2.2.2.length))
    have hnat : (((l.length - r2.2.2.length + 4 : Nat)) : Int) = (l.length : Int) - (r2.2.2.length : Int) + 4 := by omega
    generalize sum (l.take (l.length - r2.2.2.length)) = sm at *
    repeat' (first | (simp (disch := omega) only [push_cast, ↓reduceIte, Nat.reduceEqDiff, Int.reduceToNat, Nat.reducePow, Int.reducePow, Int.reduceNeg, Nat.reduceMul, Int.reduceMul, Int.reduceAdd, Int.reduceSub, Nat.reduceAdd, Nat.reduceSub, Nat.reduceLeDiff, Int.reduceLT, Int.reduceLE, Int.reduceEq, Int.reduceMod, Int.reduceDiv, reduceCtorEq, not_true_eq_false, not_false_eq_true]) | refine vIfE_of (fun _ => ?_) (fun _ => ?_) | refine vIfD_of (fun _ => ?_) (fun _ => ?_) | refine vIfQ_of (fun _ => ?_) (fun _ => ?_) | refine vIfV_of (fun _ => ?_) (fun _ => ?_) | refine And.intro (by omega) ?_ | refine drawn_q ?_ | fail)
    refine (four_c sm w5 hs32).mono ?_
    rintro z w6 ⟨hz, hl6⟩
    have hl46 := hl5.trans hl6
    repeat' (first | (simp (disch := omega) only [push_cast, ↓reduceIte, Nat.reduceEqDiff, Int.reduceToNat, Nat.reducePow, Int.reducePow, Int.reduceNeg, Nat.reduceMul, Int.reduceMul, Int.reduceAdd, Int.reduceSub, Nat.reduceAdd, Nat.reduceSub, Nat.reduceLeDiff, Int.reduceLT, Int.reduceLE, Int.reduceEq, Int.reduceMod, Int.reduceDiv, reduceCtorEq, not_true_eq_false, not_false_eq_true]) | refine vIfE_of (fun _ => ?_) (fun _ => ?_) | refine vIfD_of (fun _ => ?_) (fun _ => ?_) | refine vIfQ_of (fun _ => ?_) (fun _ => ?_) | refine vIfV_of (fun _ => ?_) (fun _ => ?_) | refine And.intro (by omega) ?_ | refine drawn_q ?_ | fail)
    refine (equal_c _ _ r3.1 (four sm) w6 (hy.sl.later hl46) hz.sl).mono ?_
    rintro _ w0 ⟨rfl, hw⟩
    obtain rfl := hw.symm
    have hl := hl4.trans hl46
    by_cases hq : r3.1 = four sm
    · rw [if_pos hq] at hf
      have hfs := fsR_some hf
      have hd : decide (r3.1 = four sm) = true := by simpa using hq
      rw [hd]
      repeat' (first | (simp (disch := omega) only [push_cast, ↓reduceIte, Nat.reduceEqDiff, Int.reduceToNat, Nat.reducePow, Int.reducePow, Int.reduceNeg, Nat.reduceMul, Int.reduceMul, Int.reduceAdd, Int.reduceSub, Nat.reduceAdd, Nat.reduceSub, Nat.reduceLeDiff, Int.reduceLT, Int.reduceLE, Int.reduceEq, Int.reduceMod, Int.reduceDiv, reduceCtorEq, not_true_eq_false, not_false_eq_true]) | refine vIfE_of (fun _ => ?_) (fun _ => ?_) | refine vIfD_of (fun _ => ?_) (fun _ => ?_) | refine vIfQ_of (fun _ => ?_) (fun _ => ?_) | refine vIfV_of (fun _ => ?_) (fun _ => ?_) | refine And.intro (by omega) ?_ | refine drawn_q ?_ | fail)
      exact ⟨⟨x, by rw [hfs]; simp only [hnat], by rw [hfs]; exact hx4.later hl46⟩, hl⟩
    · rw [if_neg hq] at hf
      have hfs := fsR_none hf
      have hd : decide (r3.1 = four sm) = false := by simpa using hq
      rw [hd]
      repeat' (first | (simp (disch := omega) only [push_cast, ↓reduceIte, Nat.reduceEqDiff, Int.reduceToNat, Nat.reducePow, Int.reducePow, Int.reduceNeg, Nat.reduceMul, Int.reduceMul, Int.reduceAdd, Int.reduceSub, Nat.reduceAdd, Nat.reduceSub, Nat.reduceLeDiff, Int.reduceLT, Int.reduceLE, Int.reduceEq, Int.reduceMod, Int.reduceDiv, reduceCtorEq, not_true_eq_false, not_false_eq_true]) | refine vIfE_of (fun _ => ?_) (fun _ => ?_) | refine vIfD_of (fun _ => ?_) (fun _ => ?_) | refine vIfQ_of (fun _ => ?_) (fun _ => ?_) | refine vIfV_of (fun _ => ?_) (fun _ => ?_) | refine And.intro (by omega) ?_ | refine drawn_q ?_ | fail)
      exact ⟨⟨.slice none 0 0, by rw [hfs]; rfl, by rw [hfs]; exact own_nil _ _ _ _⟩, hl⟩
/-- What the document's First answers: a part of the bytes. -/
def FirstsR (v r : Value) (l : List UInt8) : Prop := ∃ x, r = .tuple #[x, .int .i64 (fsR l).2.1, .int .i64 (fsR l).2.2] ∧ ∀ w, Sl w v (l.map u8v) → Sl w x ((fsR l).1.map u8v)
set_option maxRecDepth 100000 in
theorem rFirst_c (v : Value) (l : List UInt8) (w : World) (h : Sl w v (l.map u8v)) (hl : l.length ≤ 140737488355000) : FnC Try.prog 30 #[v] w fun r w' => FirstsR v r l ∧ Later w w' := by
  have hs := h
  obtain ⟨o, c, rfl, g1, g2, h, g3⟩ := h.openM
  refine enter30 _ ?_
  unfold B30
  have hdb : ∃ d, d ≠ w.heap.size ∧ inB d (.slice o l.length c) := by
    rcases inB_lt hs with h | ⟨k0, hk0, h⟩
    · exact ⟨w.heap.size + 1, by omega, h _⟩
    · exact ⟨k0, by omega, h⟩
  obtain ⟨d, hdk, hdb⟩ := hdb
  have ecs : (Value.agg #[.slice o l.length c, .int .i64 0, .bool false]).cells = #[.slice o l.length c, .int .i64 0, .bool false] := rfl
  repeat' (first | (simp (disch := omega) only [push_cast, ↓reduceIte, Nat.reduceEqDiff, Int.reduceToNat, Nat.reducePow, Int.reducePow, Int.reduceNeg, Nat.reduceMul, Int.reduceMul, Int.reduceAdd, Int.reduceSub, Nat.reduceAdd, Nat.reduceSub, Nat.reduceLeDiff, Int.reduceLT, Int.reduceLE, Int.reduceEq, Int.reduceMod, Int.reduceDiv, reduceCtorEq, not_true_eq_false, not_false_eq_true, ecs]) | refine vIfE_of (fun _ => ?_) (fun _ => ?_) | refine vIfD_of (fun _ => ?_) (fun _ => ?_) | refine vIfQ_of (fun _ => ?_) (fun _ => ?_) | refine vIfV_of (fun _ => ?_) (fun _ => ?_) | refine And.intro (by omega) ?_ | refine drawn_q ?_ | fail)
  have B1 := Blk.new w #[.slice o l.length c, .int .i64 0, .bool false] 72
  have hl1 := later_alloc w (.cells #[.slice o l.length c, .int .i64 0, .bool false] 72)
  generalize w.alloc (.cells #[.slice o l.length c, .int .i64 0, .bool false] 72) = w1 at *
  have hk1 : w.heap.size < w1.heap.size := B1.lt
  generalize hkk : w.heap.size = k at *
  have hR1 : Rm w1 k d l 0 false := Rm.mk' B1 (hs.later hl1) hdb hdk
  refine (rRInt_c k d l 0 false 0 16777216 w1 hR1 (Nat.zero_le _) (by omega)).mono ?_
  rintro _ w2 ⟨rfl, j, bad, hR2, hj, hjd, gc2⟩
  have hl2 : Later w w2 := gc2.later hl1 (by simp; omega)
  rw [List.drop_zero] at hjd ⊢
  rcases rI_zero l with ⟨hb, hr⟩ | ⟨u, k', n, h1, h2, h3, hr, hk'⟩
  · have hfs := fsR_none (fst_none' hb)
    rw [hr]
    repeat' (first | (simp (disch := omega) only [push_cast, ↓reduceIte, Nat.reduceEqDiff, Int.reduceToNat, Nat.reducePow, Int.reducePow, Int.reduceNeg, Nat.reduceMul, Int.reduceMul, Int.reduceAdd, Int.reduceSub, Nat.reduceAdd, Nat.reduceSub, Nat.reduceLeDiff, Int.reduceLT, Int.reduceLE, Int.reduceEq, Int.reduceMod, Int.reduceDiv, reduceCtorEq, not_true_eq_false, not_false_eq_true]) | refine vIfE_of (fun _ => ?_) (fun _ => ?_) | refine vIfD_of (fun _ => ?_) (fun _ => ?_) | refine vIfQ_of (fun _ => ?_) (fun _ => ?_) | refine vIfV_of (fun _ => ?_) (fun _ => ?_) | refine And.intro (by omega) ?_ | refine drawn_q ?_ | fail)
    exact ⟨⟨.slice none 0 0, by rw [hfs]; rfl, by rw [hfs]; exact fun _ _ => Sl.nil _⟩, hl2⟩
  rw [hr] at hjd ⊢
  have hjk : j = k' := by
    have := congrArg List.length hjd
    simp at this; omega
  subst hjk
  obtain ⟨o2, c2, q0, q1, q2, qf, _⟩ := hR2.cells
  by_cases hlong : l.length < j + n + 4
  · have hfs := fsR_none (show fst l = none by unfold fst; rw [h1]; simp only [h2, Int.toNat_natCast]; rw [if_neg (by omega), if_pos hlong])
    repeat' (first | (simp (disch := omega) only [push_cast, ↓reduceIte, Nat.reduceEqDiff, Int.reduceToNat, Nat.reducePow, Int.reducePow, Int.reduceNeg, Nat.reduceMul, Int.reduceMul, Int.reduceAdd, Int.reduceSub, Nat.reduceAdd, Nat.reduceSub, Nat.reduceLeDiff, Int.reduceLT, Int.reduceLE, Int.reduceEq, Int.reduceMod, Int.reduceDiv, reduceCtorEq, not_true_eq_false, not_false_eq_true, q1, addr_add_eq, Nat.zero_add]) | refine vIfE_of (fun _ => ?_) (fun _ => ?_) | refine vIfD_of (fun _ => ?_) (fun _ => ?_) | refine vIfQ_of (fun _ => ?_) (fun _ => ?_) | refine vIfV_of (fun _ => ?_) (fun _ => ?_) | refine And.intro (by omega) ?_ | refine drawn_q ?_ | fail)
    exact ⟨⟨.slice none 0 0, by rw [hfs]; rfl, by rw [hfs]; exact fun _ _ => Sl.nil _⟩, hl2⟩
  obtain ⟨hbl, hfr⟩ := fst_ref h1 (by omega) (by omega) (by rw [h2]; simp; omega)
  simp only [h2, Int.toNat_natCast] at hbl hfr
  have hsub := fun (w : World) (hs : Sl w (.slice o l.length c) (l.map u8v)) => hs.part (l := (j : Int)) (k := (j : Int) + (n : Int)) (m := (c : Int)) (by omega) (by omega) (by omega) (by omega) (by omega)
  have e1 : ((j : Int) + (n : Int) - (j : Int)).toNat = n := by omega
  have e2 : ((j : Int) + (n : Int)).toNat = j + n := by omega
  have e3 : (((l.map u8v).take (j + n)).drop j) = ((l.drop j).take n).map u8v := by
    rw [List.drop_take, List.map_take, List.map_drop]; congr 1; omega
  simp only [Int.toNat_natCast, e1, e2, e3] at hsub
  have hxl : ((l.drop j).take n).length = n := by simp; omega
  repeat' (first | (simp (disch := omega) only [push_cast, ↓reduceIte, Nat.reduceEqDiff, Int.reduceToNat, Nat.reducePow, Int.reducePow, Int.reduceNeg, Nat.reduceMul, Int.reduceMul, Int.reduceAdd, Int.reduceSub, Nat.reduceAdd, Nat.reduceSub, Nat.reduceLeDiff, Int.reduceLT, Int.reduceLE, Int.reduceEq, Int.reduceMod, Int.reduceDiv, reduceCtorEq, not_true_eq_false, not_false_eq_true, q1, addr_add_eq, Nat.zero_add]) | refine vIfE_of (fun _ => ?_) (fun _ => ?_) | refine vIfD_of (fun _ => ?_) (fun _ => ?_) | refine vIfQ_of (fun _ => ?_) (fun _ => ?_) | refine vIfV_of (fun _ => ?_) (fun _ => ?_) | refine And.intro (by omega) ?_ | refine drawn_q ?_ | fail)
  intro w3 hl3
  have hl23 := hl2.trans hl3
  repeat' (first | (simp (disch := omega) only [push_cast, ↓reduceIte, Nat.reduceEqDiff, Int.reduceToNat, Nat.reducePow, Int.reducePow, Int.reduceNeg, Nat.reduceMul, Int.reduceMul, Int.reduceAdd, Int.reduceSub, Nat.reduceAdd, Nat.reduceSub, Nat.reduceLeDiff, Int.reduceLT, Int.reduceLE, Int.reduceEq, Int.reduceMod, Int.reduceDiv, reduceCtorEq, not_true_eq_false, not_false_eq_true, e1]) | refine vIfE_of (fun _ => ?_) (fun _ => ?_) | refine vIfD_of (fun _ => ?_) (fun _ => ?_) | refine vIfQ_of (fun _ => ?_) (fun _ => ?_) | refine vIfV_of (fun _ => ?_) (fun _ => ?_) | refine And.intro (by omega) ?_ | refine drawn_q ?_ | fail)
  generalize hxx : (l.drop j).take n = x at *
  refine (rBlock_c _ x w3 ((hsub w hs).later hl23)).mono ?_
  rintro _ w4 ⟨hbd, hl4⟩
  have hl24 := hl23.trans hl4
  rcases hbd with ⟨hbad, _⟩ | ⟨_, a, rfl, ha⟩
  · omega
  obtain ⟨oa, ca, rfl⟩ := ha.slice
  have hpre := hs.pre (k := (blkB x).length) (by omega)
  rw [← List.map_take, hbl] at hpre
  have hs4 := ha.sl
  rw [hbl] at hs4 ⊢
  have e5 : (((j + n + 4 : Nat)) : Int) = (j : Int) + (n : Int) + 4 := by omega
  repeat' (first | (simp (disch := omega) only [push_cast, ↓reduceIte, Nat.reduceEqDiff, Int.reduceToNat, Nat.reducePow, Int.reducePow, Int.reduceNeg, Nat.reduceMul, Int.reduceMul, Int.reduceAdd, Int.reduceSub, Nat.reduceAdd, Nat.reduceSub, Nat.reduceLeDiff, Int.reduceLT, Int.reduceLE, Int.reduceEq, Int.reduceMod, Int.reduceDiv, reduceCtorEq, not_true_eq_false, not_false_eq_true]) | refine vIfE_of (fun _ => ?_) (fun _ => ?_) | refine vIfD_of (fun _ => ?_) (fun _ => ?_) | refine vIfQ_of (fun _ => ?_) (fun _ => ?_) | refine vIfV_of (fun _ => ?_) (fun _ => ?_) | refine And.intro (by omega) ?_ | fail)
  refine drawn_q ?_
  repeat' (first | (simp (disch := omega) only [push_cast, ↓reduceIte, Nat.reduceEqDiff, Int.reduceToNat, Nat.reducePow, Int.reducePow, Int.reduceNeg, Nat.reduceMul, Int.reduceMul, Int.reduceAdd, Int.reduceSub, Nat.reduceAdd, Nat.reduceSub, Nat.reduceLeDiff, Int.reduceLT, Int.reduceLE, Int.reduceEq, Int.reduceMod, Int.reduceDiv, reduceCtorEq, not_true_eq_false, not_false_eq_true]) | refine vIfE_of (fun _ => ?_) (fun _ => ?_) | refine vIfD_of (fun _ => ?_) (fun _ => ?_) | refine vIfQ_of (fun _ => ?_) (fun _ => ?_) | refine vIfV_of (fun _ => ?_) (fun _ => ?_) | refine And.intro (by omega) ?_ | refine drawn_q ?_ | fail)
  refine qConv_bytes Try.underlying24 Try.underlying9 Try.underlying5 (by simp (disch := omega) only [push_cast, ↓reduceIte, Nat.reduceEqDiff, Int.reduceToNat, Nat.reducePow, Int.reducePow, Int.reduceNeg, Nat.reduceMul, Int.reduceMul, Int.reduceAdd, Int.reduceSub, Nat.reduceAdd, Nat.reduceSub, Nat.reduceLeDiff, Int.reduceLT, Int.reduceLE, Int.reduceEq, Int.reduceMod, Int.reduceDiv, reduceCtorEq, not_true_eq_false, not_false_eq_true]) hs4 ?_
  repeat' (first | (simp (disch := omega) only [push_cast, ↓reduceIte, Nat.reduceEqDiff, Int.reduceToNat, Nat.reducePow, Int.reducePow, Int.reduceNeg, Nat.reduceMul, Int.reduceMul, Int.reduceAdd, Int.reduceSub, Nat.reduceAdd, Nat.reduceSub, Nat.reduceLeDiff, Int.reduceLT, Int.reduceLE, Int.reduceEq, Int.reduceMod, Int.reduceDiv, reduceCtorEq, not_true_eq_false, not_false_eq_true]) | refine vIfE_of (fun _ => ?_) (fun _ => ?_) | refine vIfD_of (fun _ => ?_) (fun _ => ?_) | refine vIfQ_of (fun _ => ?_) (fun _ => ?_) | refine vIfV_of (fun _ => ?_) (fun _ => ?_) | refine And.intro (by omega) ?_ | refine drawn_q ?_ | fail)
  refine qConv_bytes Try.underlying24 Try.underlying9 Try.underlying5 (by simp (disch := omega) only [push_cast, ↓reduceIte, Nat.reduceEqDiff, Int.reduceToNat, Nat.reducePow, Int.reducePow, Int.reduceNeg, Nat.reduceMul, Int.reduceMul, Int.reduceAdd, Int.reduceSub, Nat.reduceAdd, Nat.reduceSub, Nat.reduceLeDiff, Int.reduceLT, Int.reduceLE, Int.reduceEq, Int.reduceMod, Int.reduceDiv, reduceCtorEq, not_true_eq_false, not_false_eq_true]) (hpre.later hl24) ?_
  by_cases hq : blkB x = l.take (j + n + 4)
  · rw [if_pos hq] at hfr
    have hfs := fsR_some hfr
    repeat' (first | (simp (disch := omega) only [push_cast, ↓reduceIte, Nat.reduceEqDiff, Int.reduceToNat, Nat.reducePow, Int.reducePow, Int.reduceNeg, Nat.reduceMul, Int.reduceMul, Int.reduceAdd, Int.reduceSub, Nat.reduceAdd, Nat.reduceSub, Nat.reduceLeDiff, Int.reduceLT, Int.reduceLE, Int.reduceEq, Int.reduceMod, Int.reduceDiv, reduceCtorEq, not_true_eq_false, not_false_eq_true, strOf_inj, hq, decide_true]) | refine vIfE_of (fun _ => ?_) (fun _ => ?_) | refine vIfD_of (fun _ => ?_) (fun _ => ?_) | refine vIfQ_of (fun _ => ?_) (fun _ => ?_) | refine vIfV_of (fun _ => ?_) (fun _ => ?_) | refine And.intro (by omega) ?_ | refine drawn_q ?_ | fail)
    intro w5 hl5
    repeat' (first | (simp (disch := omega) only [push_cast, ↓reduceIte, Nat.reduceEqDiff, Int.reduceToNat, Nat.reducePow, Int.reducePow, Int.reduceNeg, Nat.reduceMul, Int.reduceMul, Int.reduceAdd, Int.reduceSub, Nat.reduceAdd, Nat.reduceSub, Nat.reduceLeDiff, Int.reduceLT, Int.reduceLE, Int.reduceEq, Int.reduceMod, Int.reduceDiv, reduceCtorEq, not_true_eq_false, not_false_eq_true]) | refine vIfE_of (fun _ => ?_) (fun _ => ?_) | refine vIfD_of (fun _ => ?_) (fun _ => ?_) | refine vIfQ_of (fun _ => ?_) (fun _ => ?_) | refine vIfV_of (fun _ => ?_) (fun _ => ?_) | refine And.intro (by omega) ?_ | refine drawn_q ?_ | fail)
    have e6 : (j : Int) + (n : Int) + 1 + 1 + 1 + 1 = ((j + n + 4 : Nat) : Int) := by omega
    refine ⟨⟨_, by rw [hfs, e6], by rw [hfs]; exact hsub⟩, hl24.trans hl5⟩
  · rw [if_neg hq] at hfr
    have hfs := fsR_none hfr
    repeat' (first | (simp (disch := omega) only [push_cast, ↓reduceIte, Nat.reduceEqDiff, Int.reduceToNat, Nat.reducePow, Int.reducePow, Int.reduceNeg, Nat.reduceMul, Int.reduceMul, Int.reduceAdd, Int.reduceSub, Nat.reduceAdd, Nat.reduceSub, Nat.reduceLeDiff, Int.reduceLT, Int.reduceLE, Int.reduceEq, Int.reduceMod, Int.reduceDiv, reduceCtorEq, not_true_eq_false, not_false_eq_true, strOf_inj, hq, decide_false]) | refine vIfE_of (fun _ => ?_) (fun _ => ?_) | refine vIfD_of (fun _ => ?_) (fun _ => ?_) | refine vIfQ_of (fun _ => ?_) (fun _ => ?_) | refine vIfV_of (fun _ => ?_) (fun _ => ?_) | refine And.intro (by omega) ?_ | refine drawn_q ?_ | fail)
    intro w5 hl5
    repeat' (first | (simp (disch := omega) only [push_cast, ↓reduceIte, Nat.reduceEqDiff, Int.reduceToNat, Nat.reducePow, Int.reducePow, Int.reduceNeg, Nat.reduceMul, Int.reduceMul, Int.reduceAdd, Int.reduceSub, Nat.reduceAdd, Nat.reduceSub, Nat.reduceLeDiff, Int.reduceLT, Int.reduceLE, Int.reduceEq, Int.reduceMod, Int.reduceDiv, reduceCtorEq, not_true_eq_false, not_false_eq_true]) | refine vIfE_of (fun _ => ?_) (fun _ => ?_) | refine vIfD_of (fun _ => ?_) (fun _ => ?_) | refine vIfQ_of (fun _ => ?_) (fun _ => ?_) | refine vIfV_of (fun _ => ?_) (fun _ => ?_) | refine And.intro (by omega) ?_ | refine drawn_q ?_ | fail)
    exact ⟨⟨.slice none 0 0, by rw [hfs]; rfl, by rw [hfs]; exact fun _ _ => Sl.nil _⟩, hl24.trans hl5⟩
end Go.Proofs.Ytkchefbnamiikaa
