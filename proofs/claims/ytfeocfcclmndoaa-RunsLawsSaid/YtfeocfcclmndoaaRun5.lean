/- Contracts: the edges of two sets, one by one (an iterator). -/
import Derived.Test.YtfeocfcclmndoaaRun4
set_option linter.unusedSimpArgs false
namespace Go.Proofs.Ytfeocfcclmndoaa
open Go.Vc Go.Run
set_option maxRecDepth 100000
theorem edge_c (v : Value) (s : S) (i : Bool) (w : World) (h : PairS w v s) : FnC Try.prog 98 #[v, .bool i] w fun r w' => r = .int .i64 (edge s i) ∧ w' = w := by
  obtain ⟨o, c, rfl, g1, g2⟩ := h.slice
  refine enter98 _ _ ?_
  unfold B98
  cases s with
  | nil =>
    rw [List.length_nil]
    repeat' (first | (simp (disch := omega) only [push_cast, ↓reduceIte, Nat.reduceEqDiff, Int.reduceToNat, Nat.reducePow, Int.reducePow, Int.reduceNeg, Nat.reduceMul, Int.reduceMul, Int.reduceAdd, Int.reduceSub, Nat.reduceAdd, Nat.reduceSub, Nat.reduceLeDiff, Int.reduceLT, Int.reduceLE, Int.reduceEq, Int.reduceMod, Int.reduceDiv, reduceCtorEq, not_true_eq_false, not_false_eq_true]) | refine vIfE_of (fun _ => ?_) (fun _ => ?_) | refine vIfD_of (fun _ => ?_) (fun _ => ?_) | refine vIfQ_of (fun _ => ?_) (fun _ => ?_) | refine vIfV_of (fun _ => ?_) (fun _ => ?_) | refine And.intro (by omega) ?_ | refine drawn_q ?_ | fail)
    all_goals exact rfl
  | cons r s =>
    obtain ⟨a, rfl⟩ := PairS.some h (i := 0) (by simp)
    obtain ⟨_, c0, c1⟩ := PairS.get h (i := 0) (by simp)
    simp only [Nat.zero_mul, addr_add_zero, List.getElem_cons_zero] at c0 c1
    have hl : (0 : Int) < ((r :: s).length : Nat) := by simp
    unfold edge
    cases i with
    | true =>
      repeat' (first | (simp (disch := omega) only [push_cast, ↓reduceIte, Nat.reduceEqDiff, Int.reduceToNat, Nat.reducePow, Int.reducePow, Int.reduceNeg, Nat.reduceMul, Int.reduceMul, Int.reduceAdd, Int.reduceSub, Nat.reduceAdd, Nat.reduceSub, Nat.reduceLeDiff, Int.reduceLT, Int.reduceLE, Int.reduceEq, Int.reduceMod, Int.reduceDiv, reduceCtorEq, not_true_eq_false, not_false_eq_true, c0, c1]) | refine vIfE_of (fun _ => ?_) (fun _ => ?_) | refine vIfD_of (fun _ => ?_) (fun _ => ?_) | refine vIfQ_of (fun _ => ?_) (fun _ => ?_) | refine vIfV_of (fun _ => ?_) (fun _ => ?_) | refine And.intro (by omega) ?_ | refine drawn_q ?_ | fail)
      exact hl
    | false =>
      repeat' (first | (simp (disch := omega) only [push_cast, ↓reduceIte, Nat.reduceEqDiff, Int.reduceToNat, Nat.reducePow, Int.reducePow, Int.reduceNeg, Nat.reduceMul, Int.reduceMul, Int.reduceAdd, Int.reduceSub, Nat.reduceAdd, Nat.reduceSub, Nat.reduceLeDiff, Int.reduceLT, Int.reduceLE, Int.reduceEq, Int.reduceMod, Int.reduceDiv, reduceCtorEq, not_true_eq_false, not_false_eq_true, c0, c1]) | refine vIfE_of (fun _ => ?_) (fun _ => ?_) | refine vIfD_of (fun _ => ?_) (fun _ => ?_) | refine vIfQ_of (fun _ => ?_) (fun _ => ?_) | refine vIfV_of (fun _ => ?_) (fun _ => ?_) | refine And.intro (by omega) ?_ | refine drawn_q ?_ | fail)
      exact hl
/-- All but the first. -/
theorem PairS_tail {w : World} {a : Addr} {n c : Nat} {r : Int × Int} {s : S} (h : PairS w (.slice (some a) n c) (r :: s)) : PairS w (.slice (slAddr (some a) 1 c 2) ((n : Int) - 1).toNat ((c : Int) - 1).toNat) s := by
  unfold PairS at h ⊢
  obtain ⟨e, h1, h2, h3, _⟩ := h.len
  simp only [List.length_cons] at e
  have := h.part (l := 1) (k := (n : Int)) (m := (c : Int)) (by omega) (by omega) (by omega) (by omega) (by omega)
  have e1 : ((n : Int) - 1).toNat = s.length := by omega
  have e2 : (((r :: s).map pairC).flatten.take ((n : Int).toNat * 2)).drop ((1 : Int).toNat * 2) = (s.map pairC).flatten := by
    rw [List.take_of_length_le (by rw [pairs_flat_len, List.length_cons]; omega)]
    rfl
  rw [e2] at this
  rw [e1] at this ⊢
  exact this
/-- Where the iterator is. -/
structure Est where
  A : S
  i : Bool
  B : S
  j : Bool
def Est.at (s : Est) : Int := atOf s.A s.i s.B s.j
def Est.next (s : Est) : Est := ⟨nextS s.A s.i s.at, nextI s.A s.i s.at, nextS s.B s.j s.at, nextI s.B s.j s.at⟩
def Est.left (s : Est) : Nat := Run.left s.A s.i + Run.left s.B s.j
structure EOk (s : Est) : Prop where
  la : s.A.length ≤ 32769
  lb : s.B.length ≤ 32769
  less : (s.A ≠ [] ∨ s.B ≠ []) → s.next.left < s.left
  le : (s.A ≠ [] ∨ s.B ≠ []) → s.at ≤ 65536
theorem EOk.of {op : Bool → Bool → Bool} {a b out : S} {s : Est} {last : Int} (h : Inv op a b s.A s.i s.B s.j last out) : EOk s := ⟨wf_len h.wa h.lo, wf_len h.wb h.lo, fun hne => h.less hne, fun hne => (h.round hne).2.1⟩
/-- Behind the first n of the two. -/
def stg (A : S) (i : Bool) (B : S) (j : Bool) (x : Int) : Nat → Est
  | 0 => ⟨A, i, B, j⟩
  | 1 => ⟨nextS A i x, nextI A i x, B, j⟩
  | _ => ⟨nextS A i x, nextI A i x, nextS B j x, nextI B j x⟩
theorem ne_of_edge {A : S} {i : Bool} {x : Int} (h : edge A i = x) (hx : x ≤ 65536) : A ≠ [] := by
  rintro rfl
  have : edge [] i = 65537 := rfl
  omega
theorem slice_of {w : World} {v : Value} {s : S} (h : PairS w v s) : ∃ o c, v = .slice o s.length c := by
  obtain ⟨o, c, hv, _⟩ := h.slice
  exact ⟨o, c, hv⟩
set_option maxHeartbeats 2000000 in
theorem ends_c (L ka kb : Nat) (a b : S) (va vb : Value) (w0 w : World) (I : Est → World → Prop) (hA : PairS w0 va a) (hB : PairS w0 vb b)
    (bA : Blk w ka #[va] 22) (bB : Blk w kb #[vb] 22) (h0 : I ⟨a, false, b, false⟩ w)
    (hl : ∀ st w1, I st w1 → Later w0 w1 ∧ EOk st) (hstab : ∀ st w1 w2, I st w1 → Later w1 w2 → I st w2)
    (hset : ∀ st w1 w2 k cs t, (t = 122 ∨ t = 108) → w0.heap.size ≤ k → I st w1 → Blk w1 k cs t → Chg w1 w2 [k] → I st w2)
    (hy : ∀ st w1 ks ki cs ci, I st w1 → (st.A ≠ [] ∨ st.B ≠ []) → Blk w1 ks cs 122 → Blk w1 ki ci 108 →
      YldC Try.prog L #[.int .i64 st.at, .agg #[.bool st.i, .bool st.j]] w1 fun v w2 => v = .bool true ∧ I st.next w2 ∧ Blk w2 ks cs 122 ∧ Blk w2 ki ci 108) :
    FnC Try.prog 97 #[.func (.yield L) #[] #[], .pointer (some ⟨ka, 0, none⟩), .pointer (some ⟨kb, 0, none⟩)] w fun _ w' => ∃ i j, I ⟨[], i, [], j⟩ w' := by
  refine enter97 _ _ _ ?_
  unfold B97
  have c0 : w.cell? ⟨ka, 0, none⟩ = some va := bA.cell 0
  have c1 : w.cell? ⟨kb, 0, none⟩ = some vb := bB.cell 0
  obtain ⟨oa, ca, hva⟩ := slice_of hA
  obtain ⟨ob, cb, hvb⟩ := slice_of hB
  rw [hva] at c0
  rw [hvb] at c1
  rw [hva] at hA
  rw [hvb] at hB
  repeat' (first | (simp (disch := omega) only [push_cast, ↓reduceIte, Nat.reduceEqDiff, Int.reduceToNat, Nat.reducePow, Int.reducePow, Int.reduceNeg, Nat.reduceMul, Int.reduceMul, Int.reduceAdd, Int.reduceSub, Nat.reduceAdd, Nat.reduceSub, Nat.reduceLeDiff, Int.reduceLT, Int.reduceLE, Int.reduceEq, Int.reduceMod, Int.reduceDiv, reduceCtorEq, not_true_eq_false, not_false_eq_true, c0, c1]) | refine vIfE_of (fun _ => ?_) (fun _ => ?_) | refine vIfD_of (fun _ => ?_) (fun _ => ?_) | refine vIfQ_of (fun _ => ?_) (fun _ => ?_) | refine vIfV_of (fun _ => ?_) (fun _ => ?_) | refine And.intro (by omega) ?_ | refine drawn_q ?_ | fail)
  refine vStore_new rfl rfl (by intro u hu; simp only [List.mem_cons, List.not_mem_nil, or_false] at hu; rcases hu with rfl | rfl <;> rfl) ?_
  have B1 := Blk.new w #[.slice oa a.length ca, .slice ob b.length cb] 122
  have l1 := later_alloc w (.cells #[.slice oa a.length ca, .slice ob b.length cb] 122)
  have s1 := World.size_alloc w (.cells #[.slice oa a.length ca, .slice ob b.length cb] 122)
  have hk0 : w0.heap.size ≤ w.heap.size := (hl _ _ h0).1.size
  have hk1 : w0.heap.size ≤ w.heap.size + 1 := by omega
  generalize hks : w.heap.size = ks at *
  generalize w.alloc (.cells #[.slice oa a.length ca, .slice ob b.length cb] 122) = w1 at *
  repeat' (first | (simp (disch := omega) only [push_cast, ↓reduceIte, Nat.reduceEqDiff, Int.reduceToNat, Nat.reducePow, Int.reducePow, Int.reduceNeg, Nat.reduceMul, Int.reduceMul, Int.reduceAdd, Int.reduceSub, Nat.reduceAdd, Nat.reduceSub, Nat.reduceLeDiff, Int.reduceLT, Int.reduceLE, Int.reduceEq, Int.reduceMod, Int.reduceDiv, reduceCtorEq, not_true_eq_false, not_false_eq_true]) | refine vIfE_of (fun _ => ?_) (fun _ => ?_) | refine vIfD_of (fun _ => ?_) (fun _ => ?_) | refine vIfQ_of (fun _ => ?_) (fun _ => ?_) | refine vIfV_of (fun _ => ?_) (fun _ => ?_) | refine And.intro (by omega) ?_ | refine drawn_q ?_ | fail)
  have B2 := Blk.new w1 #[.bool false, .bool false] 108
  have l2 := later_alloc w1 (.cells #[.bool false, .bool false] 108)
  have B1' := B1.alloc (.cells #[.bool false, .bool false] 108)
  rw [s1] at B2 ⊢
  generalize w1.alloc (.cells #[.bool false, .bool false] 108) = w2 at *
  have hI2 := hstab _ w w2 h0 (l1.trans l2)
  refine vc_loop W97_0 (fun _ : Est × Value × Value => [])
    (fun p w' => I p.1 w' ∧ Blk w' ks #[p.2.1, p.2.2] 122 ∧ Blk w' (ks + 1) #[.bool p.1.i, .bool p.1.j] 108 ∧ PairS w0 p.2.1 p.1.A ∧ PairS w0 p.2.2 p.1.B) (fun p => p.1.left) (⟨a, false, b, false⟩, .slice oa a.length ca, .slice ob b.length cb) (by decide) ?_ ?_ ?_
  · simp (disch := omega) only [push_cast, ↓reduceIte, Nat.reduceEqDiff, Int.reduceToNat, Nat.reducePow, Int.reducePow, Int.reduceNeg, Nat.reduceMul, Int.reduceMul, Int.reduceAdd, Int.reduceSub, Nat.reduceAdd, Nat.reduceSub, Nat.reduceLeDiff, Int.reduceLT, Int.reduceLE, Int.reduceEq, Int.reduceMod, Int.reduceDiv, reduceCtorEq, not_true_eq_false, not_false_eq_true]
  · exact ⟨hI2, B1', B2, hA, hB⟩
  rintro ⟨⟨A, i, B, j⟩, vA, vB⟩ uu w3 ⟨hI, hs3, hi3, hPA, hPB⟩
  dsimp only at hI hs3 hi3 hPA hPB
  obtain ⟨hl3, hok⟩ := hl _ _ hI
  have hla := hok.la
  have hlb := hok.lb
  have hless := hok.less
  dsimp only at hla hlb hless
  have hPA3 := hPA.later hl3
  have hPB3 := hPB.later hl3
  obtain ⟨oA, cA, rfl⟩ := slice_of hPA
  obtain ⟨oB, cB, rfl⟩ := slice_of hPB
  have k0 : w3.cell? ⟨ks, 0, none⟩ = some (.slice oA A.length cA) := hs3.cell 0
  have k1 : w3.cell? ⟨ks, 1, none⟩ = some (.slice oB B.length cB) := hs3.cell 1
  have kk : cellsAt w3 ⟨ks, 0, none⟩ 2 = some [.slice oA A.length cA, .slice oB B.length cB] := Blk.cellsAt (l := [.slice oA A.length cA, .slice oB B.length cB]) hs3
  have m0 : w3.cell? ⟨ks + 1, 0, none⟩ = some (.bool i) := hi3.cell 0
  have m1 : w3.cell? ⟨ks + 1, 1, none⟩ = some (.bool j) := hi3.cell 1
  have mm : cellsAt w3 ⟨ks + 1, 0, none⟩ 2 = some [.bool i, .bool j] := Blk.cellsAt (l := [.bool i, .bool j]) hi3
  by_cases hne : A = [] ∧ B = []
  · obtain ⟨rfl, rfl⟩ := hne
    simp only [List.length_nil] at k0 k1
    repeat' (first | (simp (disch := omega) only [push_cast, ↓reduceIte, Nat.reduceEqDiff, Int.reduceToNat, Nat.reducePow, Int.reducePow, Int.reduceNeg, Nat.reduceMul, Int.reduceMul, Int.reduceAdd, Int.reduceSub, Nat.reduceAdd, Nat.reduceSub, Nat.reduceLeDiff, Int.reduceLT, Int.reduceLE, Int.reduceEq, Int.reduceMod, Int.reduceDiv, reduceCtorEq, not_true_eq_false, not_false_eq_true, k0, k1]) | refine vIfE_of (fun _ => ?_) (fun _ => ?_) | refine vIfD_of (fun _ => ?_) (fun _ => ?_) | refine vIfQ_of (fun _ => ?_) (fun _ => ?_) | refine vIfV_of (fun _ => ?_) (fun _ => ?_) | refine And.intro (by omega) ?_ | refine drawn_q ?_ | fail)
    exact ⟨i, j, hI⟩
  have hne : A ≠ [] ∨ B ≠ [] := by
    by_cases h : A = []
    · exact .inr fun h2 => hne ⟨h, h2⟩
    · exact .inl h
  have hpos : 0 < A.length + B.length := by
    rcases hne with h | h
    · have := List.length_pos_iff.2 h; omega
    · have := List.length_pos_iff.2 h; omega
  repeat' (first | (simp (disch := omega) only [push_cast, ↓reduceIte, Nat.reduceEqDiff, Int.reduceToNat, Nat.reducePow, Int.reducePow, Int.reduceNeg, Nat.reduceMul, Int.reduceMul, Int.reduceAdd, Int.reduceSub, Nat.reduceAdd, Nat.reduceSub, Nat.reduceLeDiff, Int.reduceLT, Int.reduceLE, Int.reduceEq, Int.reduceMod, Int.reduceDiv, reduceCtorEq, not_true_eq_false, not_false_eq_true, k0, k1, kk]) | refine vIfE_of (fun _ => ?_) (fun _ => ?_) | refine vIfD_of (fun _ => ?_) (fun _ => ?_) | refine vIfQ_of (fun _ => ?_) (fun _ => ?_) | refine vIfV_of (fun _ => ?_) (fun _ => ?_) | refine And.intro (by omega) ?_ | refine drawn_q ?_ | fail)
  refine vc_loop W97_1 (fun n : Nat => [(6, .int .i64 (atK A i B j n)), (23, .int .i64 (n : Int))]) (fun n w' => n ≤ 2 ∧ w' = w3) (fun n => 2 - n) 0 (by decide) ?_ ?_ ?_
  · simp (disch := omega) only [push_cast, ↓reduceIte, Nat.reduceEqDiff, Int.reduceToNat, Nat.reducePow, Int.reducePow, Int.reduceNeg, Nat.reduceMul, Int.reduceMul, Int.reduceAdd, Int.reduceSub, Nat.reduceAdd, Nat.reduceSub, Nat.reduceLeDiff, Int.reduceLT, Int.reduceLE, Int.reduceEq, Int.reduceMod, Int.reduceDiv, reduceCtorEq, not_true_eq_false, not_false_eq_true]
    exact rfl
  · exact ⟨by omega, rfl⟩
  rintro n uu w4 ⟨hn, rfl⟩
  match n, hn with
  | 0, _ =>
    repeat' (first | (simp (disch := omega) only [push_cast, ↓reduceIte, Nat.reduceEqDiff, Int.reduceToNat, Nat.reducePow, Int.reducePow, Int.reduceNeg, Nat.reduceMul, Int.reduceMul, Int.reduceAdd, Int.reduceSub, Nat.reduceAdd, Nat.reduceSub, Nat.reduceLeDiff, Int.reduceLT, Int.reduceLE, Int.reduceEq, Int.reduceMod, Int.reduceDiv, reduceCtorEq, not_true_eq_false, not_false_eq_true, m0]) | refine vIfE_of (fun _ => ?_) (fun _ => ?_) | refine vIfD_of (fun _ => ?_) (fun _ => ?_) | refine vIfQ_of (fun _ => ?_) (fun _ => ?_) | refine vIfV_of (fun _ => ?_) (fun _ => ?_) | refine And.intro (by omega) ?_ | refine drawn_q ?_ | fail)
    refine (edge_c _ A i w4 hPA3).mono ?_
    rintro _ w0' ⟨rfl, hw⟩
    obtain rfl := hw.symm
    repeat' (first | (simp (disch := omega) only [push_cast, ↓reduceIte, Nat.reduceEqDiff, Int.reduceToNat, Nat.reducePow, Int.reducePow, Int.reduceNeg, Nat.reduceMul, Int.reduceMul, Int.reduceAdd, Int.reduceSub, Nat.reduceAdd, Nat.reduceSub, Nat.reduceLeDiff, Int.reduceLT, Int.reduceLE, Int.reduceEq, Int.reduceMod, Int.reduceDiv, reduceCtorEq, not_true_eq_false, not_false_eq_true]) | refine vIfE_of (fun _ => ?_) (fun _ => ?_) | refine vIfD_of (fun _ => ?_) (fun _ => ?_) | refine vIfQ_of (fun _ => ?_) (fun _ => ?_) | refine vIfV_of (fun _ => ?_) (fun _ => ?_) | refine And.intro (by omega) ?_ | refine drawn_q ?_ | fail)
    exact ⟨rfl, 1, ⟨rfl, rfl, trivial⟩, ⟨by omega, rfl⟩, by dsimp only; omega⟩
  | 1, _ =>
    repeat' (first | (simp (disch := omega) only [push_cast, ↓reduceIte, Nat.reduceEqDiff, Int.reduceToNat, Nat.reducePow, Int.reducePow, Int.reduceNeg, Nat.reduceMul, Int.reduceMul, Int.reduceAdd, Int.reduceSub, Nat.reduceAdd, Nat.reduceSub, Nat.reduceLeDiff, Int.reduceLT, Int.reduceLE, Int.reduceEq, Int.reduceMod, Int.reduceDiv, reduceCtorEq, not_true_eq_false, not_false_eq_true, m1]) | refine vIfE_of (fun _ => ?_) (fun _ => ?_) | refine vIfD_of (fun _ => ?_) (fun _ => ?_) | refine vIfQ_of (fun _ => ?_) (fun _ => ?_) | refine vIfV_of (fun _ => ?_) (fun _ => ?_) | refine And.intro (by omega) ?_ | refine drawn_q ?_ | fail)
    refine (edge_c _ B j w4 hPB3).mono ?_
    rintro _ w0' ⟨rfl, hw⟩
    obtain rfl := hw.symm
    repeat' (first | (simp (disch := omega) only [push_cast, ↓reduceIte, Nat.reduceEqDiff, Int.reduceToNat, Nat.reducePow, Int.reducePow, Int.reduceNeg, Nat.reduceMul, Int.reduceMul, Int.reduceAdd, Int.reduceSub, Nat.reduceAdd, Nat.reduceSub, Nat.reduceLeDiff, Int.reduceLT, Int.reduceLE, Int.reduceEq, Int.reduceMod, Int.reduceDiv, reduceCtorEq, not_true_eq_false, not_false_eq_true]) | refine vIfE_of (fun _ => ?_) (fun _ => ?_) | refine vIfD_of (fun _ => ?_) (fun _ => ?_) | refine vIfQ_of (fun _ => ?_) (fun _ => ?_) | refine vIfV_of (fun _ => ?_) (fun _ => ?_) | refine And.intro (by omega) ?_ | refine drawn_q ?_ | fail)
    exact ⟨rfl, 2, ⟨rfl, rfl, trivial⟩, ⟨by omega, rfl⟩, by dsimp only; omega⟩
  | 2, _ =>
    repeat' (first | (simp (disch := omega) only [push_cast, ↓reduceIte, Nat.reduceEqDiff, Int.reduceToNat, Nat.reducePow, Int.reducePow, Int.reduceNeg, Nat.reduceMul, Int.reduceMul, Int.reduceAdd, Int.reduceSub, Nat.reduceAdd, Nat.reduceSub, Nat.reduceLeDiff, Int.reduceLT, Int.reduceLE, Int.reduceEq, Int.reduceMod, Int.reduceDiv, reduceCtorEq, not_true_eq_false, not_false_eq_true, mm]) | refine vIfE_of (fun _ => ?_) (fun _ => ?_) | refine vIfD_of (fun _ => ?_) (fun _ => ?_) | refine vIfQ_of (fun _ => ?_) (fun _ => ?_) | refine vIfV_of (fun _ => ?_) (fun _ => ?_) | refine And.intro (by omega) ?_ | refine drawn_q ?_ | fail)
    refine vcUp_mono (hy ⟨A, i, B, j⟩ w4 ks (ks + 1) _ _ hI hne hs3 hi3) ?_
    rintro _ w5 ⟨rfl, hI5, hs5, hi5⟩
    have hl5 := (hl _ _ hI5).1
    have hPA5 := hPA.later hl5
    have hPB5 := hPB.later hl5
    have kk5 : cellsAt w5 ⟨ks, 0, none⟩ 2 = some [.slice oA A.length cA, .slice oB B.length cB] := Blk.cellsAt (l := [.slice oA A.length cA, .slice oB B.length cB]) hs5
    have hless := hless hne
    have hle := hok.le hne
    have hat : atK A i B j 2 = Est.at ⟨A, i, B, j⟩ := rfl
    have hnx : Est.next ⟨A, i, B, j⟩ = ⟨nextS A i (Est.at ⟨A, i, B, j⟩), nextI A i (Est.at ⟨A, i, B, j⟩), nextS B j (Est.at ⟨A, i, B, j⟩), nextI B j (Est.at ⟨A, i, B, j⟩)⟩ := rfl
    rw [hnx] at hI5 hless
    generalize Est.at ⟨A, i, B, j⟩ = at' at *
    repeat' (first | (simp (disch := omega) only [push_cast, ↓reduceIte, Nat.reduceEqDiff, Int.reduceToNat, Nat.reducePow, Int.reducePow, Int.reduceNeg, Nat.reduceMul, Int.reduceMul, Int.reduceAdd, Int.reduceSub, Nat.reduceAdd, Nat.reduceSub, Nat.reduceLeDiff, Int.reduceLT, Int.reduceLE, Int.reduceEq, Int.reduceMod, Int.reduceDiv, reduceCtorEq, not_true_eq_false, not_false_eq_true, kk5, hat]) | refine vIfE_of (fun _ => ?_) (fun _ => ?_) | refine vIfD_of (fun _ => ?_) (fun _ => ?_) | refine vIfQ_of (fun _ => ?_) (fun _ => ?_) | refine vIfV_of (fun _ => ?_) (fun _ => ?_) | refine And.intro (by omega) ?_ | refine drawn_q ?_ | fail)
    have hI5 : I (stg A i B j at' 2) w5 := hI5
    have hless : (stg A i B j at' 2).left < Est.left ⟨A, i, B, j⟩ := hless
    refine vc_loop W97_2 (fun n : Nat × Value × Value => [(41, .int .i64 (n.1 : Int))])
      (fun n w' => n.1 ≤ 2 ∧ I (stg A i B j at' 2) w' ∧ Blk w' ks #[n.2.1, n.2.2] 122 ∧ Blk w' (ks + 1) #[.bool (stg A i B j at' n.1).i, .bool (stg A i B j at' n.1).j] 108 ∧
        PairS w0 n.2.1 (stg A i B j at' n.1).A ∧ PairS w0 n.2.2 (stg A i B j at' n.1).B) (fun n => 2 - n.1) (0, .slice oA A.length cA, .slice oB B.length cB) (by decide) ?_ ?_ ?_
    · simp (disch := omega) only [push_cast, ↓reduceIte, Nat.reduceEqDiff, Int.reduceToNat, Nat.reducePow, Int.reducePow, Int.reduceNeg, Nat.reduceMul, Int.reduceMul, Int.reduceAdd, Int.reduceSub, Nat.reduceAdd, Nat.reduceSub, Nat.reduceLeDiff, Int.reduceLT, Int.reduceLE, Int.reduceEq, Int.reduceMod, Int.reduceDiv, reduceCtorEq, not_true_eq_false, not_false_eq_true]
    · exact ⟨by omega, hI5, hs5, hi5, hPA, hPB⟩
    rintro ⟨n, uA, uB⟩ uu w6 ⟨hn, hI6, hs6, hi6, hPA6, hPB6⟩
    dsimp only at hn hs6 hi6 hPA6 hPB6
    have hl6 := (hl _ _ hI6).1
    match n, hn with
    | 0, _ =>
      have hi6 : Blk w6 (ks + 1) #[.bool i, .bool j] 108 := hi6
      have hPA6 : PairS w0 uA A := hPA6
      have hPB6 : PairS w0 uB B := hPB6
      have m0 : w6.cell? ⟨ks + 1, 0, none⟩ = some (.bool i) := hi6.cell 0
      repeat' (first | (simp (disch := omega) only [push_cast, ↓reduceIte, Nat.reduceEqDiff, Int.reduceToNat, Nat.reducePow, Int.reducePow, Int.reduceNeg, Nat.reduceMul, Int.reduceMul, Int.reduceAdd, Int.reduceSub, Nat.reduceAdd, Nat.reduceSub, Nat.reduceLeDiff, Int.reduceLT, Int.reduceLE, Int.reduceEq, Int.reduceMod, Int.reduceDiv, reduceCtorEq, not_true_eq_false, not_false_eq_true, m0]) | refine vIfE_of (fun _ => ?_) (fun _ => ?_) | refine vIfD_of (fun _ => ?_) (fun _ => ?_) | refine vIfQ_of (fun _ => ?_) (fun _ => ?_) | refine vIfV_of (fun _ => ?_) (fun _ => ?_) | refine And.intro (by omega) ?_ | refine drawn_q ?_ | fail)
      refine (edge_c _ A i w6 (hPA.later hl6)).mono ?_
      rintro _ w0' ⟨rfl, hw⟩
      obtain rfl := hw.symm
      by_cases he : edge A i = at'
      · have hnS : nextS A i at' = if i = true then A.tail else A := by unfold nextS; rw [if_pos he]
        have hnI : nextI A i at' = !i := by unfold nextI; rw [if_pos he]
        have hAn := ne_of_edge he hle
        have hbm : ∃ y, w6.cell? ⟨ks + 1, 0, none⟩ = some y := ⟨_, m0⟩
        have hfz := hi6.frozen 0
        cases i with
        | true =>
          obtain ⟨aa, rfl⟩ := PairS.some hPA (i := 0) (List.length_pos_iff.2 hAn)
          have hpos := List.length_pos_iff.2 hAn
          have hcc := hPA.slice
          obtain ⟨_, cc, hcv, hc1, hc2⟩ := hcc
          simp only [Value.slice.injEq, true_and] at hcv
          obtain ⟨_, rfl⟩ := hcv
          have htl : PairS w0 (.slice (slAddr (some aa) 1 cA 2) ((A.length : Int) - 1).toNat ((cA : Int) - 1).toNat) (nextS A true at') := by
            rw [hnS, if_pos rfl]
            obtain ⟨r, A', rfl⟩ := List.exists_cons_of_ne_nil hAn
            exact PairS_tail hPA
          have hbs : ∃ y, w6.cell? ⟨ks, 0, none⟩ = some y := ⟨_, hs6.cell 0⟩
          have hfs := hs6.frozen 0
          repeat' (first | (simp (disch := omega) only [push_cast, ↓reduceIte, Nat.reduceEqDiff, Int.reduceToNat, Nat.reducePow, Int.reducePow, Int.reduceNeg, Nat.reduceMul, Int.reduceMul, Int.reduceAdd, Int.reduceSub, Nat.reduceAdd, Nat.reduceSub, Nat.reduceLeDiff, Int.reduceLT, Int.reduceLE, Int.reduceEq, Int.reduceMod, Int.reduceDiv, reduceCtorEq, not_true_eq_false, not_false_eq_true, he, m0]) | refine vIfE_of (fun _ => ?_) (fun _ => ?_) | refine vIfD_of (fun _ => ?_) (fun _ => ?_) | refine vIfQ_of (fun _ => ?_) (fun _ => ?_) | refine vIfV_of (fun _ => ?_) (fun _ => ?_) | refine And.intro (by omega) ?_ | refine drawn_q ?_ | fail)
          generalize hnv : Value.slice (slAddr (some aa) 1 cA 2) ((A.length : Int) - 1).toNat ((cA : Int) - 1).toNat = nv at *
          have g7 := chg_setCell (i := 0) w6 (ks := [ks]) (k := ks) (by simp) nv
          have hs7 := hs6.set 0 nv
          have hi7 := hi6.chg g7 (by simp)
          have hI7 := hset _ _ _ _ _ _ (.inl rfl) hk0 hI6 hs6 g7
          generalize w6.setCell ⟨ks, 0, none⟩ nv = w7 at *
          have m7 : w7.cell? ⟨ks + 1, 0, none⟩ = some (.bool true) := hi7.cell 0
          have hfz := hi7.frozen 0
          repeat' (first | (simp (disch := omega) only [push_cast, ↓reduceIte, Nat.reduceEqDiff, Int.reduceToNat, Nat.reducePow, Int.reducePow, Int.reduceNeg, Nat.reduceMul, Int.reduceMul, Int.reduceAdd, Int.reduceSub, Nat.reduceAdd, Nat.reduceSub, Nat.reduceLeDiff, Int.reduceLT, Int.reduceLE, Int.reduceEq, Int.reduceMod, Int.reduceDiv, reduceCtorEq, not_true_eq_false, not_false_eq_true, m7, hfz]) | refine vIfE_of (fun _ => ?_) (fun _ => ?_) | refine vIfD_of (fun _ => ?_) (fun _ => ?_) | refine vIfQ_of (fun _ => ?_) (fun _ => ?_) | refine vIfV_of (fun _ => ?_) (fun _ => ?_) | refine And.intro (by omega) ?_ | refine drawn_q ?_ | fail)
          have g8 := chg_setCell (i := 0) w7 (ks := [ks + 1]) (k := ks + 1) (by simp) (.bool false)
          have hs8 := hs7.chg g8 (by simp)
          have hi8 := hi7.set 0 (.bool false)
          have hI8 := hset _ _ _ _ _ _ (.inr rfl) hk1 hI7 hi7 g8
          refine ⟨rfl, (0 + 1, nv, uB), ⟨rfl, trivial⟩, ⟨by dsimp only; omega, hI8, by simpa using hs8, ?_, htl, hPB6⟩, by dsimp only; omega⟩
          have hnI : nextI A true at' = false := hnI
          show Blk _ (ks + 1) #[.bool (nextI A true at'), .bool j] _
          rw [hnI]; simpa using hi8
        | false =>
          repeat' (first | (simp (disch := omega) only [push_cast, ↓reduceIte, Nat.reduceEqDiff, Int.reduceToNat, Nat.reducePow, Int.reducePow, Int.reduceNeg, Nat.reduceMul, Int.reduceMul, Int.reduceAdd, Int.reduceSub, Nat.reduceAdd, Nat.reduceSub, Nat.reduceLeDiff, Int.reduceLT, Int.reduceLE, Int.reduceEq, Int.reduceMod, Int.reduceDiv, reduceCtorEq, not_true_eq_false, not_false_eq_true, he, m0, hfz]) | refine vIfE_of (fun _ => ?_) (fun _ => ?_) | refine vIfD_of (fun _ => ?_) (fun _ => ?_) | refine vIfQ_of (fun _ => ?_) (fun _ => ?_) | refine vIfV_of (fun _ => ?_) (fun _ => ?_) | refine And.intro (by omega) ?_ | refine drawn_q ?_ | fail)
          have g8 := chg_setCell (i := 0) w6 (ks := [ks + 1]) (k := ks + 1) (by simp) (.bool true)
          have hs8 := hs6.chg g8 (by simp)
          have hi8 := hi6.set 0 (.bool true)
          have hI8 := hset _ _ _ _ _ _ (.inr rfl) hk1 hI6 hi6 g8
          have hnS : nextS A false at' = A := by rw [hnS]; rfl
          refine ⟨rfl, (0 + 1, uA, uB), ⟨rfl, trivial⟩, ⟨by dsimp only; omega, hI8, by simpa using hs8, ?_, by show PairS w0 uA (nextS A _ at'); rw [hnS]; exact hPA6, hPB6⟩, by dsimp only; omega⟩
          have hnI : nextI A false at' = true := hnI
          show Blk _ (ks + 1) #[.bool (nextI A false at'), .bool j] _
          rw [hnI]; simpa using hi8
      · have hnS : nextS A i at' = A := by unfold nextS; rw [if_neg he]
        have hnI : nextI A i at' = i := by unfold nextI; rw [if_neg he]
        repeat' (first | (simp (disch := omega) only [push_cast, ↓reduceIte, Nat.reduceEqDiff, Int.reduceToNat, Nat.reducePow, Int.reducePow, Int.reduceNeg, Nat.reduceMul, Int.reduceMul, Int.reduceAdd, Int.reduceSub, Nat.reduceAdd, Nat.reduceSub, Nat.reduceLeDiff, Int.reduceLT, Int.reduceLE, Int.reduceEq, Int.reduceMod, Int.reduceDiv, reduceCtorEq, not_true_eq_false, not_false_eq_true, he]) | refine vIfE_of (fun _ => ?_) (fun _ => ?_) | refine vIfD_of (fun _ => ?_) (fun _ => ?_) | refine vIfQ_of (fun _ => ?_) (fun _ => ?_) | refine vIfV_of (fun _ => ?_) (fun _ => ?_) | refine And.intro (by omega) ?_ | refine drawn_q ?_ | fail)
        refine ⟨rfl, (0 + 1, uA, uB), ⟨rfl, trivial⟩, ⟨by dsimp only; omega, hI6, hs6, ?_, by show PairS w0 uA (nextS A _ at'); rw [hnS]; exact hPA6, hPB6⟩, by dsimp only; omega⟩
        show Blk _ (ks + 1) #[.bool (nextI A i at'), .bool j] _
        rw [hnI]; exact hi6
    | 1, _ =>
      have hi6 : Blk w6 (ks + 1) #[.bool (nextI A i at'), .bool j] 108 := hi6
      have hPA6 : PairS w0 uA (nextS A i at') := hPA6
      have hPB6 : PairS w0 uB B := hPB6
      have m1 : w6.cell? ⟨ks + 1, 1, none⟩ = some (.bool j) := hi6.cell 1
      repeat' (first | (simp (disch := omega) only [push_cast, ↓reduceIte, Nat.reduceEqDiff, Int.reduceToNat, Nat.reducePow, Int.reducePow, Int.reduceNeg, Nat.reduceMul, Int.reduceMul, Int.reduceAdd, Int.reduceSub, Nat.reduceAdd, Nat.reduceSub, Nat.reduceLeDiff, Int.reduceLT, Int.reduceLE, Int.reduceEq, Int.reduceMod, Int.reduceDiv, reduceCtorEq, not_true_eq_false, not_false_eq_true, m1]) | refine vIfE_of (fun _ => ?_) (fun _ => ?_) | refine vIfD_of (fun _ => ?_) (fun _ => ?_) | refine vIfQ_of (fun _ => ?_) (fun _ => ?_) | refine vIfV_of (fun _ => ?_) (fun _ => ?_) | refine And.intro (by omega) ?_ | refine drawn_q ?_ | fail)
      refine (edge_c _ B j w6 (hPB.later hl6)).mono ?_
      rintro _ w0' ⟨rfl, hw⟩
      obtain rfl := hw.symm
      by_cases he : edge B j = at'
      · have hnS : nextS B j at' = if j = true then B.tail else B := by unfold nextS; rw [if_pos he]
        have hnI : nextI B j at' = !j := by unfold nextI; rw [if_pos he]
        have hAn := ne_of_edge he hle
        have hbm : ∃ y, w6.cell? ⟨ks + 1, 1, none⟩ = some y := ⟨_, m1⟩
        have hfz := hi6.frozen 1
        cases j with
        | true =>
          obtain ⟨aa, rfl⟩ := PairS.some hPB (i := 0) (List.length_pos_iff.2 hAn)
          have hpos := List.length_pos_iff.2 hAn
          have hcc := hPB.slice
          obtain ⟨_, cc, hcv, hc1, hc2⟩ := hcc
          simp only [Value.slice.injEq, true_and] at hcv
          obtain ⟨_, rfl⟩ := hcv
          have htl : PairS w0 (.slice (slAddr (some aa) 1 cB 2) ((B.length : Int) - 1).toNat ((cB : Int) - 1).toNat) (nextS B true at') := by
            rw [hnS, if_pos rfl]
            obtain ⟨r, A', rfl⟩ := List.exists_cons_of_ne_nil hAn
            exact PairS_tail hPB
          have hbs : ∃ y, w6.cell? ⟨ks, 1, none⟩ = some y := ⟨_, hs6.cell 1⟩
          have hfs := hs6.frozen 1
          repeat' (first | (simp (disch := omega) only [push_cast, ↓reduceIte, Nat.reduceEqDiff, Int.reduceToNat, Nat.reducePow, Int.reducePow, Int.reduceNeg, Nat.reduceMul, Int.reduceMul, Int.reduceAdd, Int.reduceSub, Nat.reduceAdd, Nat.reduceSub, Nat.reduceLeDiff, Int.reduceLT, Int.reduceLE, Int.reduceEq, Int.reduceMod, Int.reduceDiv, reduceCtorEq, not_true_eq_false, not_false_eq_true, he, m1]) | refine vIfE_of (fun _ => ?_) (fun _ => ?_) | refine vIfD_of (fun _ => ?_) (fun _ => ?_) | refine vIfQ_of (fun _ => ?_) (fun _ => ?_) | refine vIfV_of (fun _ => ?_) (fun _ => ?_) | refine And.intro (by omega) ?_ | refine drawn_q ?_ | fail)
          generalize hnv : Value.slice (slAddr (some aa) 1 cB 2) ((B.length : Int) - 1).toNat ((cB : Int) - 1).toNat = nv at *
          have g7 := chg_setCell (i := 1) w6 (ks := [ks]) (k := ks) (by simp) nv
          have hs7 := hs6.set 1 nv
          have hi7 := hi6.chg g7 (by simp)
          have hI7 := hset _ _ _ _ _ _ (.inl rfl) hk0 hI6 hs6 g7
          generalize w6.setCell ⟨ks, 1, none⟩ nv = w7 at *
          have m7 : w7.cell? ⟨ks + 1, 1, none⟩ = some (.bool true) := hi7.cell 1
          have hfz := hi7.frozen 1
          repeat' (first | (simp (disch := omega) only [push_cast, ↓reduceIte, Nat.reduceEqDiff, Int.reduceToNat, Nat.reducePow, Int.reducePow, Int.reduceNeg, Nat.reduceMul, Int.reduceMul, Int.reduceAdd, Int.reduceSub, Nat.reduceAdd, Nat.reduceSub, Nat.reduceLeDiff, Int.reduceLT, Int.reduceLE, Int.reduceEq, Int.reduceMod, Int.reduceDiv, reduceCtorEq, not_true_eq_false, not_false_eq_true, m7, hfz]) | refine vIfE_of (fun _ => ?_) (fun _ => ?_) | refine vIfD_of (fun _ => ?_) (fun _ => ?_) | refine vIfQ_of (fun _ => ?_) (fun _ => ?_) | refine vIfV_of (fun _ => ?_) (fun _ => ?_) | refine And.intro (by omega) ?_ | refine drawn_q ?_ | fail)
          have g8 := chg_setCell (i := 1) w7 (ks := [ks + 1]) (k := ks + 1) (by simp) (.bool false)
          have hs8 := hs7.chg g8 (by simp)
          have hi8 := hi7.set 1 (.bool false)
          have hI8 := hset _ _ _ _ _ _ (.inr rfl) hk1 hI7 hi7 g8
          refine ⟨rfl, (1 + 1, uA, nv), ⟨rfl, trivial⟩, ⟨by dsimp only; omega, hI8, by simpa using hs8, ?_, hPA6, htl⟩, by dsimp only; omega⟩
          have hnI : nextI B true at' = false := hnI
          show Blk _ (ks + 1) #[.bool (nextI A i at'), .bool (nextI B true at')] _
          rw [hnI]; simpa using hi8
        | false =>
          repeat' (first | (simp (disch := omega) only [push_cast, ↓reduceIte, Nat.reduceEqDiff, Int.reduceToNat, Nat.reducePow, Int.reducePow, Int.reduceNeg, Nat.reduceMul, Int.reduceMul, Int.reduceAdd, Int.reduceSub, Nat.reduceAdd, Nat.reduceSub, Nat.reduceLeDiff, Int.reduceLT, Int.reduceLE, Int.reduceEq, Int.reduceMod, Int.reduceDiv, reduceCtorEq, not_true_eq_false, not_false_eq_true, he, m1, hfz]) | refine vIfE_of (fun _ => ?_) (fun _ => ?_) | refine vIfD_of (fun _ => ?_) (fun _ => ?_) | refine vIfQ_of (fun _ => ?_) (fun _ => ?_) | refine vIfV_of (fun _ => ?_) (fun _ => ?_) | refine And.intro (by omega) ?_ | refine drawn_q ?_ | fail)
          have g8 := chg_setCell (i := 1) w6 (ks := [ks + 1]) (k := ks + 1) (by simp) (.bool true)
          have hs8 := hs6.chg g8 (by simp)
          have hi8 := hi6.set 1 (.bool true)
          have hI8 := hset _ _ _ _ _ _ (.inr rfl) hk1 hI6 hi6 g8
          have hnS : nextS B false at' = B := by rw [hnS]; rfl
          refine ⟨rfl, (1 + 1, uA, uB), ⟨rfl, trivial⟩, ⟨by dsimp only; omega, hI8, by simpa using hs8, ?_, hPA6, by show PairS w0 uB (nextS B _ at'); rw [hnS]; exact hPB6⟩, by dsimp only; omega⟩
          have hnI : nextI B false at' = true := hnI
          show Blk _ (ks + 1) #[.bool (nextI A i at'), .bool (nextI B false at')] _
          rw [hnI]; simpa using hi8
      · have hnS : nextS B j at' = B := by unfold nextS; rw [if_neg he]
        have hnI : nextI B j at' = j := by unfold nextI; rw [if_neg he]
        repeat' (first | (simp (disch := omega) only [push_cast, ↓reduceIte, Nat.reduceEqDiff, Int.reduceToNat, Nat.reducePow, Int.reducePow, Int.reduceNeg, Nat.reduceMul, Int.reduceMul, Int.reduceAdd, Int.reduceSub, Nat.reduceAdd, Nat.reduceSub, Nat.reduceLeDiff, Int.reduceLT, Int.reduceLE, Int.reduceEq, Int.reduceMod, Int.reduceDiv, reduceCtorEq, not_true_eq_false, not_false_eq_true, he]) | refine vIfE_of (fun _ => ?_) (fun _ => ?_) | refine vIfD_of (fun _ => ?_) (fun _ => ?_) | refine vIfQ_of (fun _ => ?_) (fun _ => ?_) | refine vIfV_of (fun _ => ?_) (fun _ => ?_) | refine And.intro (by omega) ?_ | refine drawn_q ?_ | fail)
        refine ⟨rfl, (1 + 1, uA, uB), ⟨rfl, trivial⟩, ⟨by dsimp only; omega, hI6, hs6, ?_, hPA6, by show PairS w0 uB (nextS B _ at'); rw [hnS]; exact hPB6⟩, by dsimp only; omega⟩
        show Blk _ (ks + 1) #[.bool (nextI A i at'), .bool (nextI B j at')] _
        rw [hnI]; exact hi6
    | 2, _ =>
      repeat' (first | (simp (disch := omega) only [push_cast, ↓reduceIte, Nat.reduceEqDiff, Int.reduceToNat, Nat.reducePow, Int.reducePow, Int.reduceNeg, Nat.reduceMul, Int.reduceMul, Int.reduceAdd, Int.reduceSub, Nat.reduceAdd, Nat.reduceSub, Nat.reduceLeDiff, Int.reduceLT, Int.reduceLE, Int.reduceEq, Int.reduceMod, Int.reduceDiv, reduceCtorEq, not_true_eq_false, not_false_eq_true]) | refine vIfE_of (fun _ => ?_) (fun _ => ?_) | refine vIfD_of (fun _ => ?_) (fun _ => ?_) | refine vIfQ_of (fun _ => ?_) (fun _ => ?_) | refine vIfV_of (fun _ => ?_) (fun _ => ?_) | refine And.intro (by omega) ?_ | refine drawn_q ?_ | fail)
      exact ⟨rfl, (stg A i B j at' 2, uA, uB), trivial, ⟨hI6, hs6, hi6, hPA6, hPB6⟩, hless⟩
end Go.Proofs.Ytfeocfcclmndoaa
