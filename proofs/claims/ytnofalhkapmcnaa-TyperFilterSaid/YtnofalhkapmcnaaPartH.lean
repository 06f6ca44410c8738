/- slices.Values, Collect, AppendSeq over texts. -/
import Derived.Test.YtnofalhkapmcnaaPartG
set_option linter.all false
open Nat renaming reduceEqDiff → zA, reducePow → zB, reduceMul → zC, reduceAdd → zD, reduceSub → zE, reduceLeDiff → zF
open Int renaming reduceToNat → zG, reducePow → zH, reduceNeg → zI, reduceMul → zJ, reduceAdd → zK, reduceSub → zL, reduceLT → zM, reduceLE → zN, reduceEq → zO, reduceMod → zP, reduceDiv → zQ
section
set_option linter.unusedSimpArgs false
namespace Go.Proofs.Ytnofalhkapmcnaa
open Go.Vc Go.Key
set_option maxRecDepth 100000
theorem values_c2 (o : Option Addr) (n c : Nat) (w : World) : FnC Try.prog 117 #[.slice o n c] w fun r w' => r = .func (.func 148) #[] #[pt w.heap.size] ∧ Later w w' ∧ Blk w' w.heap.size #[.slice o n c] 22 := by
  refine enter117 _ ?_
  unfold B117 pt
  have ec : (Value.slice o n c).cells = #[.slice o n c] := rfl
  repeat' (first | (simp (disch := omega) only [push_cast, ↓reduceIte, zA, zG, zB, zH, zI, zC, zJ, zK, zL, zD, zE, zF, zM, zN, zO, zP, zQ, reduceCtorEq, not_true_eq_false, not_false_eq_true, ec]) | (first | refine iE ?_ ?_ | refine iD ?_ ?_ | refine iQ ?_ ?_ | refine iV ?_ ?_) <;> intro _ | refine And.intro (by omega) ?_ | refine drawn_q ?_ | fail)
  have l1 := later_alloc w (.cells #[.slice o n c] 22)
  have B1 := Blk.new w #[.slice o n c] 22
  first | exact ⟨rfl, l1, B1⟩ | exact ⟨l1, B1⟩ | exact B1
theorem vals1_c (L k1 : Nat) (v : Value) (l : List ByteArray) (I : Nat → World → Prop) (w : World) (h0 : I 0 w) (hl : l.length ≤ 1000000)
    (hI : ∀ i w1, I i w1 → StS w1 v l ∧ Blk w1 k1 #[v] 22)
    (hy : ∀ i (hi : i < l.length) w1, I i w1 → YldC Try.prog L #[.string l[i]] w1 fun b w2 => b = .bool true ∧ I (i + 1) w2) :
    FnC Try.prog 148 #[.func (.yield L) #[] #[], pt k1] w fun _ w' => I l.length w' := by
  obtain ⟨r0, b0⟩ := hI 0 w h0
  obtain ⟨o, c, rfl, g1, g2, hm, g3⟩ := r0.openM
  refine enter148 _ _ ?_
  unfold B148 pt
  have f0 : w.cell? ⟨k1, 0, none⟩ = some (.slice o l.length c) := b0.cell 0
  repeat' (first | (simp (disch := omega) only [push_cast, ↓reduceIte, zA, zG, zB, zH, zI, zC, zJ, zK, zL, zD, zE, zF, zM, zN, zO, zP, zQ, reduceCtorEq, not_true_eq_false, not_false_eq_true, f0]) | (first | refine iE ?_ ?_ | refine iD ?_ ?_ | refine iQ ?_ ?_ | refine iV ?_ ?_) <;> intro _ | refine And.intro (by omega) ?_ | refine drawn_q ?_ | fail)
  refine vc_loop W148_0 (fun i : Nat => [(7, .int .i64 (i : Int))]) (fun i w' => i ≤ l.length ∧ I i w') (fun i => l.length - i) 0 (by decide) ?_ ?_ ?_
  · simp (disch := omega) only [push_cast, ↓reduceIte, zA, zG, zB, zH, zI, zC, zJ, zK, zL, zD, zE, zF, zM, zN, zO, zP, zQ, reduceCtorEq, not_true_eq_false, not_false_eq_true]
    try rfl
  · exact ⟨by omega, h0⟩
  rintro i uu w1 ⟨hi, h1⟩
  by_cases hlt : i < l.length
  · have hd : decide ((i : Int) < (l.length : Int)) = true := decide_eq_true (by omega)
    obtain ⟨r1, b1⟩ := hI i w1 h1
    cases o with
    | none => have := (g3 rfl).1; rw [this] at hlt; simp at hlt
    | some la =>
    have f1 := StS.atS r1 hlt
    have hyi := hy i hlt w1 h1
    generalize l[i] = e at *
    repeat' (first | (simp (disch := omega) only [push_cast, ↓reduceIte, zA, zG, zB, zH, zI, zC, zJ, zK, zL, zD, zE, zF, zM, zN, zO, zP, zQ, reduceCtorEq, not_true_eq_false, not_false_eq_true, f1, hd]) | (first | refine iE ?_ ?_ | refine iD ?_ ?_ | refine iQ ?_ ?_ | refine iV ?_ ?_) <;> intro _ | refine And.intro (by omega) ?_ | refine drawn_q ?_ | fail)
    refine vcUp_mono hyi ?_
    rintro _ w3 ⟨rfl, h3⟩
    repeat' (first | (simp (disch := omega) only [push_cast, ↓reduceIte, zA, zG, zB, zH, zI, zC, zJ, zK, zL, zD, zE, zF, zM, zN, zO, zP, zQ, reduceCtorEq, not_true_eq_false, not_false_eq_true]) | (first | refine iE ?_ ?_ | refine iD ?_ ?_ | refine iQ ?_ ?_ | refine iV ?_ ?_) <;> intro _ | refine And.intro (by omega) ?_ | refine drawn_q ?_ | fail)
    exact ⟨rfl, i + 1, by simp (disch := omega) only [push_cast, ↓reduceIte, zA, zG, zB, zH, zI, zC, zJ, zK, zL, zD, zE, zF, zM, zN, zO, zP, zQ, reduceCtorEq, not_true_eq_false, not_false_eq_true], ⟨by omega, h3⟩, by dsimp only; omega⟩
  · have hd : decide ((i : Int) < (l.length : Int)) = false := decide_eq_false (by omega)
    have e : i = l.length := by omega
    subst e
    repeat' (first | (simp (disch := omega) only [push_cast, ↓reduceIte, zA, zG, zB, zH, zI, zC, zJ, zK, zL, zD, zE, zF, zM, zN, zO, zP, zQ, reduceCtorEq, not_true_eq_false, not_false_eq_true, hd]) | (first | refine iE ?_ ?_ | refine iD ?_ ?_ | refine iQ ?_ ?_ | refine iV ?_ ?_) <;> intro _ | refine And.intro (by omega) ?_ | refine drawn_q ?_ | fail)
    exact h1
/-- What holds between the rounds. -/
structure LpT (w w' : World) (L : Nat) (o : Obj) (ks : List ByteArray) : Prop where
  rec_ : w'.heap[L]? = some o
  def_ : w'.heap[w.heap.size + 1]? = some (.deferred (some []))
  later : Later w w'
  out : ∃ ov, Blk w' w.heap.size #[ov] 22 ∧ OwnS w' w.heap.size ov ks
theorem OwnS.sl {w : World} {B : Nat} {v : Value} {l : List ByteArray} (h : OwnS w B v l) : ∃ o c, v = .slice o l.length c := by
  obtain ⟨o, c, hv⟩ := Sl.slice h.st
  exact ⟨o, c, by simpa using hv⟩
set_option maxHeartbeats 1000000 in
theorem appendSeq_c (kl : Nat) (v : Value) (l : List ByteArray) (w : World) (hk : Blk w kl #[v] 22) (hs : StS w v l) (hl : l.length ≤ 1000000) :
    FnC Try.prog 161 #[.slice none 0 0, .func (.func 148) #[] #[pt kl]] w fun v w' => OwnS w' w.heap.size v l ∧ Later w w' := by
  have hkl : kl < w.heap.size := Blk.lt hk
  refine enter161 _ _ ?_
  unfold B161
  have eca : (Value.slice none 0 0).cells = #[.slice none 0 0] := rfl
  repeat' (first | (simp (disch := omega) only [push_cast, ↓reduceIte, zA, zG, zB, zH, zI, zC, zJ, zK, zL, zD, zE, zF, zM, zN, zO, zP, zQ, reduceCtorEq, not_true_eq_false, not_false_eq_true, eca]) | (first | refine iE ?_ ?_ | refine iD ?_ ?_ | refine iQ ?_ ?_ | refine iV ?_ ?_) <;> intro _ | refine And.intro (by omega) ?_ | refine drawn_q ?_ | fail)
  have B1 := Blk.new w #[.slice none 0 0] 22
  have s1 := World.size_alloc w (.cells #[.slice none 0 0] 22)
  have l1 := later_alloc w (.cells #[.slice none 0 0] 22)
  generalize w.alloc (.cells #[.slice none 0 0] 22) = w1 at *
  refine rngC_of hb148 ?_
  rintro D L rec hrec hD hL hyl
  have hDe : D = w.heap.size + 1 := by omega
  have hLe : L = w.heap.size + 2 := by omega
  have hrL : ((w1.alloc (.deferred (some []))).alloc (rec .ready .normal)).heap[L]? = some (rec .ready .normal) := by
    have := World.alloc_heap_new (w1.alloc (.deferred (some []))) (rec .ready .normal)
    rw [World.size_alloc] at this
    rw [hL]; exact this
  have hrD : ((w1.alloc (.deferred (some []))).alloc (rec .ready .normal)).heap[D]? = some (.deferred (some [])) := by
    rw [hD]
    exact heap_later (World.alloc_heap_new w1 _) (later_alloc _ _)
  have hl3 := later_two w1 (.deferred (some [])) (rec .ready .normal)
  generalize (w1.alloc (.deferred (some []))).alloc (rec .ready .normal) = w3 at *
  have hl03 := l1.trans hl3
  have B3 := B1.chg (Chg.of_later (ks := []) hl3) (by simp)
  subst hDe
  refine (vals1_c L kl v l (fun i w' => i ≤ l.length ∧ LpT w w' L (rec .ready .normal) (l.take i)) w3 ⟨Nat.zero_le _, hrL, hrD, hl03, _, B3, own_nil _ _ _ _⟩ hl ?_ ?_).mono ?_
  · rintro i u1 ⟨_, h1, h2, h3, _⟩
    exact ⟨Sl.later hs h3, hk.chg (Chg.of_later (ks := []) h3) (by simp)⟩
  · rintro i hi u1 ⟨_, h1, h2, h3, ov, h4, h5⟩
    refine hyl _ u1 _ ?_
    unfold Rnd
    refine ⟨h1, rfl, ?_⟩
    have hu1L : L < u1.heap.size := (Array.getElem?_eq_some_iff.1 h1).1
    have htk : l.take (i + 1) = l.take i ++ [l[i]] := List.take_succ_eq_append_getElem hi
    have hlt : (l.take i).length = i := by rw [List.length_take]; omega
    generalize l[i] = k at *
    generalize l.take i = ks at *
    repeat' (first | (simp (disch := omega) only [push_cast, ↓reduceIte, zA, zG, zB, zH, zI, zC, zJ, zK, zL, zD, zE, zF, zM, zN, zO, zP, zQ, reduceCtorEq, not_true_eq_false, not_false_eq_true]) | (first | refine iE ?_ ?_ | refine iD ?_ ?_ | refine iQ ?_ ?_ | refine iV ?_ ?_) <;> intro _ | refine And.intro (by omega) ?_ | refine drawn_q ?_ | fail)
    have gL := chg_putObj u1 (L := L) (ks := [L]) (by simp) (rec .busy .normal)
    have q1 : (u1.putObj L (rec .busy .normal)).heap[L]? = some (rec .busy .normal) := World.putObj_heap_same (Array.getElem?_eq_some_iff.1 h1).1
    have q2 := heap_chg h2 gL (by simp; omega)
    have q3 := gL.later h3 (by simp; omega)
    have q4 := h4.chg gL (by simp; omega)
    have q5 := own_obj h5 h1 (hrec _ _) gL
    generalize u1.putObj L (rec .busy .normal) = u3 at *
    obtain ⟨oo, cc, rfl⟩ := OwnS.sl q5
    have c0 : u3.cell? ⟨w.heap.size, 0, none⟩ = some (.slice oo ks.length cc) := q4.cell 0
    repeat' (first | (simp (disch := omega) only [push_cast, ↓reduceIte, zA, zG, zB, zH, zI, zC, zJ, zK, zL, zD, zE, zF, zM, zN, zO, zP, zQ, reduceCtorEq, not_true_eq_false, not_false_eq_true, c0]) | (first | refine iE ?_ ?_ | refine iD ?_ ?_ | refine iQ ?_ ?_ | refine iV ?_ ?_) <;> intro _ | refine And.intro (by omega) ?_ | refine drawn_q ?_ | fail)
    refine vAppend_own Try.underlying22 ti9 rfl (by decide) (own_alloc q5 _) (Sl.one u3 (.string k) 9) (by simp [Value.oneCell']) (by unfold maxLen; simp only [List.length_cons, List.length_nil]; omega) (by simp only [List.length_cons, List.length_nil]; omega) (by rw [World.size_alloc]; have := q3.size; omega) ?_
    intro v' u5 ho hg2 _
    have la := later_alloc u3 (.cells #[.string k] 9)
    have t5 : (u3.alloc (.cells #[.string k] 9)).ownsRow w.heap.size 9 1 (.slice oo ks.length cc) ks.length (ks.map Value.string) := own_alloc q5 _
    have v1 := grown_obj t5 hg2 (heap_later q1 la) (not_cells (hrec _ _) _)
    have v2 := grown_obj t5 hg2 (heap_later q2 la) (not_cells rfl _)
    have v4 : Blk u5 w.heap.size _ 22 := grown_obj t5 hg2 (heap_later q4 la) (fun cs h => by simp at h)
    have v3 : Later w u5 := (q3.trans la).appended t5 (Nat.le_refl _) hg2
    have ho : OwnS u5 w.heap.size v' (ks ++ [k]) := by simpa [OwnS] using ho
    obtain ⟨o2, c2, rfl⟩ := OwnS.sl ho
    have hfz := v4.frozen 0
    have hce : ∃ y, u5.cell? ⟨w.heap.size, 0, none⟩ = some y := ⟨_, v4.cell 0⟩
    have g3 := chg_setCell (i := 0) u5 (ks := [w.heap.size]) (k := w.heap.size) (by simp) (.slice o2 (ks ++ [k]).length c2)
    have z4 := v4.set 0 (.slice o2 (ks ++ [k]).length c2)
    repeat' (first | (simp (disch := omega) only [push_cast, ↓reduceIte, zA, zG, zB, zH, zI, zC, zJ, zK, zL, zD, zE, zF, zM, zN, zO, zP, zQ, reduceCtorEq, not_true_eq_false, not_false_eq_true, hfz]) | (first | refine iE ?_ ?_ | refine iD ?_ ?_ | refine iQ ?_ ?_ | refine iV ?_ ?_) <;> intro _ | refine And.intro (by omega) ?_ | refine drawn_q ?_ | fail)
    have z1 := heap_chg v1 g3 (by simp; omega)
    have z2 := heap_chg v2 g3 (by simp)
    have z3 := g3.later v3 (by simp)
    have z5 := own_chg_ty ho v4 (by decide) g3
    generalize u5.setCell ⟨w.heap.size, 0, none⟩ (.slice o2 (ks ++ [k]).length c2) = u6 at *
    have gE := chg_putObj u6 (L := L) (ks := [L]) (by simp) (rec .ready .normal)
    have hfin : LpT w (u6.putObj L (rec .ready .normal)) L (rec .ready .normal) (ks ++ [k]) := ⟨World.putObj_heap_same (Array.getElem?_eq_some_iff.1 z1).1, heap_chg z2 gE (by simp; omega), gE.later z3 (by simp; omega), _, z4.chg gE (by simp; omega), own_obj z5 z1 (hrec _ _) gE⟩
    repeat' (first | (simp (disch := omega) only [push_cast, ↓reduceIte, zA, zG, zB, zH, zI, zC, zJ, zK, zL, zD, zE, zF, zM, zN, zO, zP, zQ, reduceCtorEq, not_true_eq_false, not_false_eq_true]) | (first | refine iE ?_ ?_ | refine iD ?_ ?_ | refine iQ ?_ ?_ | refine iV ?_ ?_) <;> intro _ | refine And.intro (by omega) ?_ | refine drawn_q ?_ | fail)
    rw [htk]
    first | exact hfin | exact ⟨by omega, hfin⟩ | exact ⟨rfl, by omega, hfin⟩
  · rintro _ w4 ⟨_, h1, h2, h3, ov, h4, h5⟩
    have g1 := chg_putObj w4 (L := L) (ks := [L]) (by simp) (rec .exhausted .normal)
    have h2' := heap_chg h2 g1 (by simp; omega)
    have h5' := own_obj h5 h1 (hrec _ _) g1
    have g2 := chg_putObj (w4.putObj L (rec .exhausted .normal)) (L := w.heap.size + 1) (ks := [w.heap.size + 1]) (by simp) (.deferred none)
    have c1 : (w4.putObj L (rec .exhausted .normal)).cell? ⟨w.heap.size, 0, none⟩ = some ov := (h4.chg g1 (by simp; omega)).cell 0
    have h5'' := own_obj h5' h2' rfl g2
    have l5 := g2.later (g1.later h3 (by simp; omega)) (by simp)
    refine .inl ⟨h1, ?_⟩
    rw [List.take_of_length_le (Nat.le_refl _)] at h5''
    repeat' (first | (simp (disch := omega) only [push_cast, ↓reduceIte, zA, zG, zB, zH, zI, zC, zJ, zK, zL, zD, zE, zF, zM, zN, zO, zP, zQ, reduceCtorEq, not_true_eq_false, not_false_eq_true, c1]) | (first | refine iE ?_ ?_ | refine iD ?_ ?_ | refine iQ ?_ ?_ | refine iV ?_ ?_) <;> intro _ | refine And.intro (by omega) ?_ | refine drawn_q ?_ | fail)
    have h6 : OwnS ((w4.putObj L (rec .exhausted .normal)).putObj (w.heap.size + 1) (.deferred none)) w.heap.size ov l := h5''
    first | exact l5 | exact ⟨h6, l5⟩
theorem collectT_c (kl : Nat) (v : Value) (l : List ByteArray) (w : World) (hk : Blk w kl #[v] 22) (hs : StS w v l) (hl : l.length ≤ 1000000) :
    FnC Try.prog 146 #[.func (.func 148) #[] #[pt kl]] w fun v w' => OwnS w' w.heap.size v l ∧ Later w w' := by
  refine enter146 _ ?_
  unfold B146
  repeat' (first | (simp (disch := omega) only [push_cast, ↓reduceIte, zA, zG, zB, zH, zI, zC, zJ, zK, zL, zD, zE, zF, zM, zN, zO, zP, zQ, reduceCtorEq, not_true_eq_false, not_false_eq_true]) | (first | refine iE ?_ ?_ | refine iD ?_ ?_ | refine iQ ?_ ?_ | refine iV ?_ ?_) <;> intro _ | refine And.intro (by omega) ?_ | refine drawn_q ?_ | fail)
  refine (appendSeq_c kl v l w hk hs hl).mono ?_
  rintro v w1 ⟨ho, hl1⟩
  obtain ⟨o2, c2, rfl⟩ := OwnS.sl ho
  repeat' (first | (simp (disch := omega) only [push_cast, ↓reduceIte, zA, zG, zB, zH, zI, zC, zJ, zK, zL, zD, zE, zF, zM, zN, zO, zP, zQ, reduceCtorEq, not_true_eq_false, not_false_eq_true]) | (first | refine iE ?_ ?_ | refine iD ?_ ?_ | refine iQ ?_ ?_ | refine iV ?_ ?_) <;> intro _ | refine And.intro (by omega) ?_ | refine drawn_q ?_ | fail)
  first | exact ⟨ho, hl1⟩ | exact hl1
end Go.Proofs.Ytnofalhkapmcnaa
end
section
namespace Go.Vc
open Go
theorem bl_trans (a b c : List UInt8) (h1 : decide (a ≤ b) = true) (h2 : decide (b ≤ c) = true) : decide (a ≤ c) = true := by
  simp only [decide_eq_true_eq] at *; exact List.le_trans h1 h2
theorem bl_total (a b : List UInt8) : (decide (a ≤ b) || decide (b ≤ a)) = true := by simp only [Bool.or_eq_true, decide_eq_true_eq]; exact List.le_total a b
def srtB (ks : List ByteArray) : List (List UInt8) := (ks.map fun k => k.data.toList).mergeSort fun x y => decide (x ≤ y)
theorem srtB_len (ks : List ByteArray) : (srtB ks).length = ks.length := by simp [srtB]
theorem compact_len {zs : List (List UInt8)} (h : zs.Pairwise (· ≤ ·)) : (Lib.compact zs).length = zs.length ↔ zs.Nodup := by
  have e : (Lib.compact zs).length = zs.length ↔ ∀ i ∈ List.range zs.length, Lib.keeps zs.toArray i = true := by
    unfold Lib.compact Lib.compactUpTo
    rw [List.length_map, ← List.length_filter_eq_length_iff (l := List.range zs.length), List.length_range]
  rw [e]
  have getE : ∀ i (hi : i < zs.length), zs.toArray[i]! = zs[i] := fun i hi => by simp [getElem!_pos, hi]
  have hk : ∀ i (hi : i < zs.length) (h0 : i ≠ 0), Lib.keeps zs.toArray i = true ↔ zs[i] ≠ zs[i - 1]'(by omega) := by
    intro i hi h0
    unfold Lib.keeps
    rw [getE i hi, getE (i - 1) (by omega)]
    simp [h0]
  constructor
  · intro hall
    unfold List.Nodup
    rw [List.pairwise_iff_getElem]
    intro j i hj hi hji he
    have h1 := (hk i hi (by omega)).1 (hall i (List.mem_range.2 hi))
    have h2 : zs[j] ≤ zs[i - 1]'(by omega) := by
      by_cases e : j = i - 1
      · subst e; exact List.le_refl _
      · exact List.pairwise_iff_getElem.1 h j (i - 1) _ _ (by omega)
    have h3 : zs[i - 1]'(by omega) ≤ zs[i] := List.pairwise_iff_getElem.1 h (i - 1) i _ _ (by omega)
    rw [he] at h2
    exact h1 (List.le_antisymm h2 h3)
  · intro hn i hi
    rw [List.mem_range] at hi
    by_cases h0 : i = 0
    · subst h0; simp [Lib.keeps]
    · rw [hk i hi h0]
      intro he
      unfold List.Nodup at hn
      exact List.pairwise_iff_getElem.1 hn (i - 1) i _ _ (by omega) he.symm
theorem apart_iff (ks : List ByteArray) : (Lib.compact (srtB ks)).length = ks.length ↔ ks.Pairwise (fun x y => x ≠ y) := by
  have hs : (srtB ks).Pairwise (· ≤ ·) := (List.pairwise_mergeSort bl_trans bl_total _).imp (by simp)
  have h1 := compact_len hs
  rw [srtB_len] at h1
  rw [h1]
  have h2 : (srtB ks).Nodup ↔ (ks.map fun k => k.data.toList).Nodup := (List.mergeSort_perm _ _).nodup_iff
  rw [h2]
  unfold List.Nodup
  rw [List.pairwise_map]
  have hi : ∀ {a b : ByteArray}, a.data.toList ≠ b.data.toList ↔ a ≠ b := by
    intro a b
    constructor
    · intro h e; exact h (by rw [e])
    · intro h e; exact h (by
        obtain ⟨⟨a⟩⟩ := a; obtain ⟨⟨b⟩⟩ := b
        simp at e
        subst e; rfl)
  exact ⟨fun h => h.imp fun hh => hi.1 hh, fun h => h.imp fun hh => hi.2 hh⟩
end Go.Vc
namespace Go.Proofs.Ytnofalhkapmcnaa
open Go.Vc Go.Key
/-- A filter that may be: what its parts have for values that are no conditions' is "". -/
theorem form_vals (P : ByteArray → Bool) (hP : P ⟨#[]⟩ = true) : ∀ (f : FT) (deep : Nat), f.form deep = true → f.vals.all P = f.cvals.all P := by
  intro f
  induction f using FT.ind with
  | h f ih =>
  intro deep hf
  rw [FT.form_is, own_is] at hf
  simp only [Bool.and_eq_true] at hf
  obtain ⟨⟨_, hk⟩, ho⟩ := hf
  rw [FT.vals_is, FT.cvals_is, List.all_cons, List.all_append]
  have e1 : (f.kids.flatMap FT.vals).all P = (f.kids.flatMap FT.cvals).all P := by
    rw [List.all_flatMap, List.all_flatMap]
    rw [List.all_eq_true] at hk
    rw [Bool.eq_iff_iff, List.all_eq_true, List.all_eq_true]
    exact ⟨fun h x hx => by rw [← ih x hx _ (hk x hx)]; exact h x hx, fun h x hx => by rw [ih x hx _ (hk x hx)]; exact h x hx⟩
  rw [e1]
  congr 1
  by_cases h12 : f.op = 1 ∨ f.op = 2
  · rw [if_pos h12]; simp
  · rw [if_neg h12]
    have hn1 : ¬ f.op = 1 := fun h => h12 (.inl h)
    have hn2 : ¬ f.op = 2 := fun h => h12 (.inr h)
    rw [if_neg hn1, if_neg hn2] at ho
    have hv : f.value = ⟨#[]⟩ := by
      split at ho
      · simp only [Bool.and_eq_true, decide_eq_true_eq] at ho; exact ho.2
      · split at ho
        · simp only [Bool.and_eq_true, decide_eq_true_eq] at ho; exact ho.2
        · cases ho
    rw [hv, hP]; rfl
end Go.Proofs.Ytnofalhkapmcnaa
end
section
namespace Go.Vc
end Go.Vc
end
section
namespace Go.Bkt
def flr (t g : Int) : Int := t - t % g
/-- Go's remainder, and where a bucket begins. -/
theorem tm (t g : Int) (hg : 0 < g) : -g < t.tmod g ∧ t.tmod g < g ∧ t % g = (if t.tmod g < 0 then t.tmod g + g else t.tmod g) ∧ t.tdiv g * g = t - t.tmod g := by
  have h1 := Int.tmod_lt_of_pos t hg
  have h2 := Int.lt_tmod_of_pos t hg
  have h3 := Int.tdiv_mul_add_tmod t g
  have h4 : t % g = (t.tmod g) % g := by
    conv => lhs; rw [← h3]
    rw [Int.add_comm, Int.add_mul_emod_self_right]
  refine ⟨h2, h1, ?_, by omega⟩
  rw [h4]
  split
  · rename_i h
    have e : t.tmod g % g = (t.tmod g + g) % g := by rw [Int.add_emod_right]
    rw [e]; exact Int.emod_eq_of_lt (by omega) (by omega)
  · exact Int.emod_eq_of_lt (by omega) h1
theorem tmod_pos (t g : Int) (h : 0 ≤ t) : t.tmod g = t % g := Int.tmod_eq_emod_of_nonneg h
theorem tmod_emod (t g : Int) : t.tmod g % g = t % g := by
  have h3 := Int.tdiv_mul_add_tmod t g
  conv => rhs; rw [← h3]
  rw [Int.add_comm, Int.add_mul_emod_self_right]
theorem em (t g : Int) (hg : 0 < g) : 0 ≤ t % g ∧ t % g < g := ⟨Int.emod_nonneg _ (by omega), Int.emod_lt_of_pos _ hg⟩
/-- Where a stretch ends. -/
def nxt (at_ to_ g : Int) : Int := min (flr at_ g + g) to_
end Go.Bkt
end
section
namespace Go.Proofs.Ytnofalhkapmcnaa
open Go.Vc
set_option maxRecDepth 100000
variable (Q : Post) (ds : List Deferred) (σ : Env) (w : World)
@[push_cast] theorem bsl45_1_Codes7M {K : Value → World → Prop} {w : World} (x00 x01 x02 x03 x04 : Value) : vBuildSlice Try.prog 45 1 #[(0, (.agg #[x00, x01, x02, x03, x04]))] K w = K (.slice (some ⟨w.heap.size, 0, none⟩) 1 1) (w.alloc (.cells #[x00, x01, x02, x03, x04] 49)) :=
  vBuildSlice_ok Try.underlying45 ti49 (by kernel_rfl) (by decide)
@[push_cast] theorem bld49_0_1_2_3_Codes7M {K : Value → World → Prop} {w : World} (x0 : Int) (x1 : Int) (x2 : Int) (x3 : Int) : vBuild Try.prog 49 #[(0, (.int .i64 x0)), (1, (.int .i64 x1)), (2, (.int .i64 x2)), (3, (.int .i64 x3))] K w = K (.agg #[(.int .i64 x0), (.int .i64 x1), (.int .i64 x2), (.int .i64 x3), (.int .i64 0)]) w :=
  vBuild_ok (by kernel_rfl)
end Go.Proofs.Ytnofalhkapmcnaa
end
section
set_option linter.unusedSimpArgs false
namespace Go.Proofs.Ytnofalhkapmcnaa
set_option maxRecDepth 100000
open Go.Vc Go.Bkt
abbrev Rt (g : Int) : Prop := 1 ≤ g ∧ g ≤ 1048576
abbrev Ft (t : Int) : Prop := -1099511627776 ≤ t ∧ t ≤ 1099511627776
abbrev I6 (t : Int) : Prop := -9223372036854775808 ≤ t ∧ t ≤ 9223372036854775807
theorem bright_c (g : Int) (w : World) (h : I6 g) : FnC Try.prog 82 #[.int .i64 g] w fun v w' => v = .bool (decide (Rt g)) ∧ w' = w := by
  refine enter82 _ ?_
  unfold B82
  by_cases h1 : 1 ≤ g <;> by_cases h2 : g ≤ 1048576
  all_goals
    repeat' (first | (simp (disch := omega) only [push_cast, ↓reduceIte, zA, zG, zB, zH, zI, zC, zJ, zK, zL, zD, zE, zF, zM, zN, zO, zP, zQ, reduceCtorEq, not_true_eq_false, not_false_eq_true]) | (first | refine iE ?_ ?_ | refine iD ?_ ?_ | refine iQ ?_ ?_ | refine iV ?_ ?_) <;> intro _ | refine And.intro (by omega) ?_ | refine drawn_q ?_ | fail)
    all_goals simp [h1, h2]
theorem bfits_c (t : Int) (w : World) (h : I6 t) : FnC Try.prog 130 #[.int .i64 t] w fun v w' => v = .bool (decide (Ft t)) ∧ w' = w := by
  refine enter130 _ ?_
  unfold B130
  by_cases h1 : -1099511627776 ≤ t <;> by_cases h2 : t ≤ 1099511627776
  all_goals
    repeat' (first | (simp (disch := omega) only [push_cast, ↓reduceIte, zA, zG, zB, zH, zI, zC, zJ, zK, zL, zD, zE, zF, zM, zN, zO, zP, zQ, reduceCtorEq, not_true_eq_false, not_false_eq_true]) | (first | refine iE ?_ ?_ | refine iD ?_ ?_ | refine iQ ?_ ?_ | refine iV ?_ ?_) <;> intro _ | refine And.intro (by omega) ?_ | refine drawn_q ?_ | fail)
    all_goals simp [h1, h2]
theorem rest_c (t g : Int) (w : World) (ht : Ft t) (hg : Rt g) : FnC Try.prog 131 #[.int .i64 t, .int .i64 g] w fun v w' => v = .int .i64 (t % g) ∧ w' = w := by
  obtain ⟨h1, h2, h3, _⟩ := tm t g (by omega)
  have h4 : (t.tmod g + g).tmod g = t % g := by
    obtain ⟨h5, h6, h7, _⟩ := tm (t.tmod g + g) g (by omega)
    have h8 := tmod_pos (t.tmod g + g) g (by omega)
    have h9 : (t.tmod g + g) % g = t % g := by
      rw [Int.add_emod_right]
      exact tmod_emod t g
    rw [h8, h9]
  refine enter131 _ _ ?_
  unfold B131
  generalize hm : t.tmod g = m at *
  repeat' (first | (simp (disch := omega) only [push_cast, ↓reduceIte, zA, zG, zB, zH, zI, zC, zJ, zK, zL, zD, zE, zF, zM, zN, zO, zP, zQ, reduceCtorEq, not_true_eq_false, not_false_eq_true, hm, h4]) | (first | refine iE ?_ ?_ | refine iD ?_ ?_ | refine iQ ?_ ?_ | refine iV ?_ ?_) <;> intro _ | refine And.intro (by omega) ?_ | refine drawn_q ?_ | fail)
  all_goals omega
/-- What Floor and Ceil answer. -/
def flrR (t g : Int) : Int × Int := if Rt g ∧ Ft t then (flr t g, 0) else (0, 111)
def tupF (p : Int × Int) : Value := .tuple #[.int .i64 p.1, .int .i64 p.2]
theorem bfloor_c (t g : Int) (w : World) (ht : I6 t) (hg : I6 g) : FnC Try.prog 98 #[.int .i64 t, .int .i64 g] w fun v w' => v = tupF (flrR t g) ∧ w' = w := by
  refine enter98 _ _ ?_
  unfold B98 tupF flrR
  repeat' (first | (simp (disch := omega) only [push_cast, ↓reduceIte, zA, zG, zB, zH, zI, zC, zJ, zK, zL, zD, zE, zF, zM, zN, zO, zP, zQ, reduceCtorEq, not_true_eq_false, not_false_eq_true]) | (first | refine iE ?_ ?_ | refine iD ?_ ?_ | refine iQ ?_ ?_ | refine iV ?_ ?_) <;> intro _ | refine And.intro (by omega) ?_ | refine drawn_q ?_ | fail)
  refine (bright_c g w hg).mono ?_
  rintro _ w0 ⟨rfl, hw⟩
  obtain rfl := hw.symm
  by_cases h0 : Rt g
  · repeat' (first | (simp (disch := omega) only [push_cast, ↓reduceIte, zA, zG, zB, zH, zI, zC, zJ, zK, zL, zD, zE, zF, zM, zN, zO, zP, zQ, reduceCtorEq, not_true_eq_false, not_false_eq_true, h0, decide_true, decide_false]) | (first | refine iE ?_ ?_ | refine iD ?_ ?_ | refine iQ ?_ ?_ | refine iV ?_ ?_) <;> intro _ | refine And.intro (by omega) ?_ | refine drawn_q ?_ | fail)
    refine (bfits_c t w ht).mono ?_
    rintro _ w0 ⟨rfl, hw⟩
    obtain rfl := hw.symm
    by_cases h1 : Ft t
    · rw [if_pos ⟨h0, h1⟩]
      have he := em t g (by omega)
      repeat' (first | (simp (disch := omega) only [push_cast, ↓reduceIte, zA, zG, zB, zH, zI, zC, zJ, zK, zL, zD, zE, zF, zM, zN, zO, zP, zQ, reduceCtorEq, not_true_eq_false, not_false_eq_true, h1, decide_true, decide_false]) | (first | refine iE ?_ ?_ | refine iD ?_ ?_ | refine iQ ?_ ?_ | refine iV ?_ ?_) <;> intro _ | refine And.intro (by omega) ?_ | refine drawn_q ?_ | fail)
      refine (rest_c t g w h1 h0).mono ?_
      rintro _ w0 ⟨rfl, hw⟩
      obtain rfl := hw.symm
      unfold flr
      generalize t % g = m at *
      repeat' (first | (simp (disch := omega) only [push_cast, ↓reduceIte, zA, zG, zB, zH, zI, zC, zJ, zK, zL, zD, zE, zF, zM, zN, zO, zP, zQ, reduceCtorEq, not_true_eq_false, not_false_eq_true]) | (first | refine iE ?_ ?_ | refine iD ?_ ?_ | refine iQ ?_ ?_ | refine iV ?_ ?_) <;> intro _ | refine And.intro (by omega) ?_ | refine drawn_q ?_ | fail)
    · rw [if_neg (fun h => h1 h.2)]
      repeat' (first | (simp (disch := omega) only [push_cast, ↓reduceIte, zA, zG, zB, zH, zI, zC, zJ, zK, zL, zD, zE, zF, zM, zN, zO, zP, zQ, reduceCtorEq, not_true_eq_false, not_false_eq_true, h1, decide_true, decide_false]) | (first | refine iE ?_ ?_ | refine iD ?_ ?_ | refine iQ ?_ ?_ | refine iV ?_ ?_) <;> intro _ | refine And.intro (by omega) ?_ | refine drawn_q ?_ | fail)
  · rw [if_neg (fun h => h0 h.1)]
    repeat' (first | (simp (disch := omega) only [push_cast, ↓reduceIte, zA, zG, zB, zH, zI, zC, zJ, zK, zL, zD, zE, zF, zM, zN, zO, zP, zQ, reduceCtorEq, not_true_eq_false, not_false_eq_true, h0, decide_true, decide_false]) | (first | refine iE ?_ ?_ | refine iD ?_ ?_ | refine iQ ?_ ?_ | refine iV ?_ ?_) <;> intro _ | refine And.intro (by omega) ?_ | refine drawn_q ?_ | fail)
end Go.Proofs.Ytnofalhkapmcnaa
end
section
set_option linter.unusedSimpArgs false
namespace Go.Proofs.Ytnofalhkapmcnaa
open Go.Vc Go.Key Go.Sort Go.Bkt
set_option maxRecDepth 100000
theorem hbSortS : HasBody Try.prog 147 := hasBody_of Try.func147 (by kernel_rfl)
theorem hbCompS : HasBody Try.prog 118 := hasBody_of Try.func118 (by kernel_rfl)
abbrev OwnZ (w : World) (B : Nat) (v : Value) (zs : List (List UInt8)) : Prop := w.ownsRow B 9 1 v zs.length (zs.map encStr)
theorem OwnZ.of {w : World} {B : Nat} {v : Value} {ks : List ByteArray} (h : OwnS w B v ks) : OwnZ w B v (ks.map fun k => k.data.toList) := by
  have es : ks.map Value.string = (ks.map fun k => k.data.toList).map encStr := by
    rw [List.map_map]
    refine List.map_congr_left fun k _ => ?_
    show Value.string k = Value.string (strOf k.data.toList)
    rw [strOf_data]
  unfold OwnZ
  rw [← es, List.length_map]
  exact h
theorem OwnZ.sl {w : World} {B : Nat} {v : Value} {zs : List (List UInt8)} (h : OwnZ w B v zs) : ∃ o c, v = .slice o zs.length c := by
  have h1 : Sl w v (zs.map encStr) := Sl.of_own (n := (zs.map encStr).length) (by rw [List.length_map]; exact h)
  obtain ⟨o, c, hv⟩ := h1.slice
  exact ⟨o, c, by simpa using hv⟩
theorem sortT_c (v : Value) (ks : List ByteArray) (B : Nat) (w : World) (h : OwnS w B v ks) (hl : ks.length ≤ 1000000) : FnC Try.prog 147 #[v] w fun r w' => r = .tuple #[] ∧ OwnZ w' B v (srtB ks) ∧ Chg w w' v.ownBlock.toList := by
  obtain ⟨o, c, rfl⟩ := OwnS.sl h
  by_cases h0 : ks.length = 0
  · have e : ks = [] := List.length_eq_zero_iff.1 h0
    subst e
    refine FnC.of_calls hbSortS (Try.slices_Sort_string_none o c w) ?_
    rintro e w' ⟨rfl, rfl⟩
    have e0 : srtB [] = [] := by simp [srtB]
    exact ⟨_, rfl, rfl, by rw [e0]; exact h, Chg.refl _ _⟩
  · obtain ⟨g, rfl, _⟩ := own_addr h (by omega)
    have h' := OwnZ.of h
    have hlm : (ks.map fun k => k.data.toList).length = ks.length := List.length_map _
    unfold OwnZ at h'
    rw [hlm] at h'
    obtain ⟨h1, h2, h3⟩ := holds_own (enc := encStr) h'
    have hc := Try.slices_Sort_string g 0 c (ks.map fun k => k.data.toList) w h1 h2 (by omega)
    rw [hlm] at hc
    refine FnC.of_calls hbSortS hc ?_
    rintro e w' ⟨rfl, n, os, rfl⟩
    obtain ⟨p1, p2⟩ := own_put (enc := encStr) (q := n) (os := os) (d := ((ks.map fun k => k.data.toList).mergeSort fun x y => decide (x ≤ y)).toArray) h' (by simp)
    refine ⟨_, rfl, rfl, ?_, p2⟩
    unfold OwnZ
    rw [srtB_len]
    exact p1
theorem compactT_c (v : Value) (zs : List (List UInt8)) (B : Nat) (w : World) (h : OwnZ w B v zs) (hl : zs.length ≤ 1000000) : FnC Try.prog 118 #[v] w fun r w' => (∃ o c, r = .slice o (Lib.compact zs).length c) ∧ Chg w w' v.ownBlock.toList := by
  obtain ⟨o, c, rfl⟩ := OwnZ.sl h
  by_cases h0 : zs.length = 0
  · have e : zs = [] := List.length_eq_zero_iff.1 h0
    subst e
    refine FnC.of_calls hbCompS (Try.slices_Compact_string_empty o c w) ?_
    rintro e w' ⟨rfl, rfl⟩
    exact ⟨_, rfl, ⟨o, c, rfl⟩, Chg.refl _ _⟩
  · obtain ⟨g, rfl, _⟩ := own_addr h (by omega)
    obtain ⟨h1, h2, h3⟩ := holds_own (enc := encStr) h
    have hs : Sl w (.slice (some ⟨g, 0, none⟩) zs.length c) (zs.map encStr) := Sl.of_own (n := (zs.map encStr).length) (by rw [List.length_map]; exact h)
    obtain ⟨_, hcap, _⟩ := hs.len
    refine FnC.of_calls hbCompS (Try.slices_Compact_string g 0 c zs w h1 (by omega) hcap) ?_
    rintro e w' ⟨rfl, q, rfl⟩
    have hle : (Lib.compact zs).length ≤ zs.length := by
      unfold Lib.compact Lib.compactUpTo
      rw [List.length_map]
      have := List.length_filter_le (Lib.keeps zs.toArray) (List.range zs.length)
      simpa using this
    have hlen : (Lib.compact zs ++ List.replicate (zs.length - (Lib.compact zs).length) ([] : List UInt8)).length = zs.length := by simp; omega
    obtain ⟨p1, p2⟩ := own_put (enc := encStr) (q := q) (os := #[]) (d := (Lib.compact zs ++ List.replicate (zs.length - (Lib.compact zs).length) ([] : List UInt8)).toArray) h (by simpa using hlen)
    rw [grow_empty] at p1 p2
    exact ⟨_, rfl, ⟨_, _, rfl⟩, p2⟩
theorem sortedT_c (kl : Nat) (v : Value) (l : List ByteArray) (w : World) (hk : Blk w kl #[v] 22) (hs : StS w v l) (hl : l.length ≤ 1000000) :
    FnC Try.prog 116 #[.func (.func 148) #[] #[pt kl]] w fun v w' => OwnZ w' w.heap.size v (srtB l) ∧ Later w w' := by
  refine enter116 _ ?_
  unfold B116
  repeat' (first | (simp (disch := omega) only [push_cast, ↓reduceIte, zA, zG, zB, zH, zI, zC, zJ, zK, zL, zD, zE, zF, zM, zN, zO, zP, zQ, reduceCtorEq, not_true_eq_false, not_false_eq_true]) | (first | refine iE ?_ ?_ | refine iD ?_ ?_ | refine iQ ?_ ?_ | refine iV ?_ ?_) <;> intro _ | refine And.intro (by omega) ?_ | refine drawn_q ?_ | fail)
  refine (collectT_c kl v l w hk hs hl).mono ?_
  rintro v2 w2 ⟨ho, l2⟩
  obtain ⟨o2, c2, rfl⟩ := OwnS.sl ho
  repeat' (first | (simp (disch := omega) only [push_cast, ↓reduceIte, zA, zG, zB, zH, zI, zC, zJ, zK, zL, zD, zE, zF, zM, zN, zO, zP, zQ, reduceCtorEq, not_true_eq_false, not_false_eq_true]) | (first | refine iE ?_ ?_ | refine iD ?_ ?_ | refine iQ ?_ ?_ | refine iV ?_ ?_) <;> intro _ | refine And.intro (by omega) ?_ | refine drawn_q ?_ | fail)
  refine (sortT_c _ l _ w2 ho hl).mono ?_
  rintro _ w3 ⟨rfl, ho3, c3⟩
  have l3 : Later w w3 := Chg.later l2 c3 (own_ge ho)
  repeat' (first | (simp (disch := omega) only [push_cast, ↓reduceIte, zA, zG, zB, zH, zI, zC, zJ, zK, zL, zD, zE, zF, zM, zN, zO, zP, zQ, reduceCtorEq, not_true_eq_false, not_false_eq_true]) | (first | refine iE ?_ ?_ | refine iD ?_ ?_ | refine iQ ?_ ?_ | refine iV ?_ ?_) <;> intro _ | refine And.intro (by omega) ?_ | refine drawn_q ?_ | fail)
  first | exact ⟨ho3, l3⟩ | exact l3
end Go.Proofs.Ytnofalhkapmcnaa
end
section
set_option linter.unusedSimpArgs false
namespace Go.Proofs.Ytnofalhkapmcnaa
open Go.Vc Go.Key Go.Sort Go.Bkt
set_option maxRecDepth 100000
theorem typed1_c (f : FT) (w : World) : FnC Try.prog 120 #[.agg (ftC f).toArray] w fun v w' => v = .bool (!decide (VlOk f.value)) ∧ Later w w' := by
  refine enter120 _ ?_
  unfold B120
  have eca : (Value.agg (ftC f).toArray).cells = (ftC f).toArray := rfl
  obtain ⟨l1, s1, B1⟩ := ftBox w f
  repeat' (first | (simp (disch := omega) only [push_cast, ↓reduceIte, zA, zG, zB, zH, zI, zC, zJ, zK, zL, zD, zE, zF, zM, zN, zO, zP, zQ, reduceCtorEq, not_true_eq_false, not_false_eq_true, eca]) | (first | refine iE ?_ ?_ | refine iD ?_ ?_ | refine iQ ?_ ?_ | refine iV ?_ ?_) <;> intro _ | refine And.intro (by omega) ?_ | refine drawn_q ?_ | fail)
  generalize w.alloc (.cells (ftC f).toArray 39) = w1 at *
  generalize w.heap.size = kf at *
  obtain ⟨_, _, a2, _⟩ := ftAt B1
  repeat' (first | (simp (disch := omega) only [push_cast, ↓reduceIte, zA, zG, zB, zH, zI, zC, zJ, zK, zL, zD, zE, zF, zM, zN, zO, zP, zQ, reduceCtorEq, not_true_eq_false, not_false_eq_true, a2, addr_add_eq, Nat.zero_add]) | (first | refine iE ?_ ?_ | refine iD ?_ ?_ | refine iQ ?_ ?_ | refine iV ?_ ?_) <;> intro _ | refine And.intro (by omega) ?_ | refine drawn_q ?_ | fail)
  refine (tvalue_c f.value w1).mono ?_
  rintro _ w2 ⟨rfl, l2⟩
  repeat' (first | (simp (disch := omega) only [push_cast, ↓reduceIte, zA, zG, zB, zH, zI, zC, zJ, zK, zL, zD, zE, zF, zM, zN, zO, zP, zQ, reduceCtorEq, not_true_eq_false, not_false_eq_true]) | (first | refine iE ?_ ?_ | refine iD ?_ ?_ | refine iQ ?_ ?_ | refine iV ?_ ?_) <;> intro _ | refine And.intro (by omega) ?_ | refine drawn_q ?_ | fail)
  first | exact ⟨rfl, (l1.trans l2)⟩ | exact (l1.trans l2)
def IT (w0 : World) (B kf : Nat) (sv bv : Value) (zs : List (List UInt8)) (n m : Nat) (b0 b1 b2 b3 b4 b5 b6 b7 : Bool) (s1 s3 s4 s12 s13 s14 s15 s16 s17 s18 : Value) (w : World) : Prop :=
  (s1 = pt kf ∧ s3 = sv) ∧ Later w0 w ∧ (b1 = false → OwnZ w B sv zs) ∧ (b0 = true → s12 = sv) ∧ (b1 = true → ∃ o c, s13 = .slice o n c) ∧ (b2 = true → s14 = .int .i64 (n : Int)) ∧ (b3 = true → s15 = .pointer (some ⟨kf, 4, none⟩)) ∧ (b4 = true → s16 = bv) ∧ (b5 = true → s17 = .int .i64 (m : Int)) ∧ (b6 = true → s18 = .bool (decide ((n : Int) = (m : Int)))) ∧ (b7 = true → s4 = .bool (decide ((n : Int) = (m : Int))))
set_option maxHeartbeats 2000000 in
theorem reg72_c {w0 w1 : World} {B kf : Nat} {so bo : Option Addr} {sc bc : Nat} {zs : List (List UInt8)} {m : Nat} {K : Env → World → Prop} {σ : Env} (e1 : σ 1 = pt kf) (e3 : σ 3 = .slice so zs.length sc) (l01 : Later w0 w1) (hB : w0.heap.size ≤ B) (hF : ∀ w', Later w0 w' → w'.cell? ⟨kf, 4, none⟩ = some (.slice bo m bc)) (ho : OwnZ w1 B (.slice so zs.length sc) zs) (hl : zs.length ≤ 1000000)
    (hK : ∀ (σ1 : Env) (w2 : World), σ1 1 = pt kf → σ1 4 = .bool (decide (((Lib.compact zs).length : Int) = (m : Int))) → Later w0 w2 → K σ1 w2) :
    anyA Try.prog r72_2 [[], [0], [1], [], [3], [4], [2, 5], [6, 1, 0, 1, 2, 3, 4, 5, 6]] K σ w1 := by
  refine ⟨fun D σ1 w => IT w0 B kf (.slice so zs.length sc) (.slice bo m bc) zs (Lib.compact zs).length m (D 0) (D 1) (D 2) (D 3) (D 4) (D 5) (D 6) (D 7) (σ1 1) (σ1 3) (σ1 4) (σ1 12) (σ1 13) (σ1 14) (σ1 15) (σ1 16) (σ1 17) (σ1 18) w, ?_, ?_, ?_⟩
  · intro w' hl2
    exact ⟨⟨e1, e3⟩, l01.trans hl2, fun _ => own_later ho hl2, (fun h => by cases h), (fun h => by cases h), (fun h => by cases h), (fun h => by cases h), (fun h => by cases h), (fun h => by cases h), (fun h => by cases h), (fun h => by cases h)⟩
  · intro D σ1 w2 j o hcl hI hoj hDj hwt
    obtain ⟨⟨g1, g3⟩, hlt, hown, k0, k1, k2, k3, k4, k5, k6, k7⟩ := hI
    have c4 := hF w2 hlt
    match j, hoj with
    | 0, hoj =>
      obtain rfl := Option.some.inj hoj
      repeat' (first | (simp (disch := omega) only [push_cast, ↓reduceIte, zA, zG, zB, zH, zI, zC, zJ, zK, zL, zD, zE, zF, zM, zN, zO, zP, zQ, reduceCtorEq, not_true_eq_false, not_false_eq_true, g3]) | (first | refine iE ?_ ?_ | refine iD ?_ ?_ | refine iQ ?_ ?_ | refine iV ?_ ?_) <;> intro _ | refine And.intro (by omega) ?_ | refine drawn_q ?_ | fail)
      exact ⟨⟨g1, by first | exact g3 | rfl⟩, hlt, hown, fun _ => rfl, k1, k2, k3, k4, k5, k6, k7⟩
    | 1, hoj =>
      obtain rfl := Option.some.inj hoj
      have h12 := k0 (waits_at' hwt rfl (by simp))
      have hw := hown hDj
      repeat' (first | (simp (disch := omega) only [push_cast, ↓reduceIte, zA, zG, zB, zH, zI, zC, zJ, zK, zL, zD, zE, zF, zM, zN, zO, zP, zQ, reduceCtorEq, not_true_eq_false, not_false_eq_true, h12]) | (first | refine iE ?_ ?_ | refine iD ?_ ?_ | refine iQ ?_ ?_ | refine iV ?_ ?_) <;> intro _ | refine And.intro (by omega) ?_ | refine drawn_q ?_ | fail)
      refine (compactT_c _ zs B w2 hw hl).mono ?_
      rintro _ w3 ⟨⟨o2, c2, rfl⟩, c3⟩
      have l3 : Later w0 w3 := Chg.later hlt c3 (fun k hk => Nat.le_trans hB (own_ge hw k hk))
      repeat' (first | (simp (disch := omega) only [push_cast, ↓reduceIte, zA, zG, zB, zH, zI, zC, zJ, zK, zL, zD, zE, zF, zM, zN, zO, zP, zQ, reduceCtorEq, not_true_eq_false, not_false_eq_true]) | (first | refine iE ?_ ?_ | refine iD ?_ ?_ | refine iQ ?_ ?_ | refine iV ?_ ?_) <;> intro _ | refine And.intro (by omega) ?_ | refine drawn_q ?_ | fail)
      exact ⟨⟨g1, g3⟩, l3, (fun h => by cases h), k0, fun _ => ⟨o2, c2, rfl⟩, k2, k3, k4, k5, k6, k7⟩
    | 2, hoj =>
      obtain rfl := Option.some.inj hoj
      obtain ⟨o2, c2, h13⟩ := k1 (waits_at' hwt rfl (by simp))
      repeat' (first | (simp (disch := omega) only [push_cast, ↓reduceIte, zA, zG, zB, zH, zI, zC, zJ, zK, zL, zD, zE, zF, zM, zN, zO, zP, zQ, reduceCtorEq, not_true_eq_false, not_false_eq_true, h13]) | (first | refine iE ?_ ?_ | refine iD ?_ ?_ | refine iQ ?_ ?_ | refine iV ?_ ?_) <;> intro _ | refine And.intro (by omega) ?_ | refine drawn_q ?_ | fail)
      exact ⟨⟨g1, g3⟩, hlt, hown, k0, fun _ => ⟨o2, c2, by first | exact h13 | rfl⟩, fun _ => rfl, k3, k4, k5, k6, k7⟩
    | 3, hoj =>
      obtain rfl := Option.some.inj hoj
      repeat' (first | (simp (disch := omega) only [push_cast, ↓reduceIte, zA, zG, zB, zH, zI, zC, zJ, zK, zL, zD, zE, zF, zM, zN, zO, zP, zQ, reduceCtorEq, not_true_eq_false, not_false_eq_true, g1, addr_add_eq, Nat.zero_add]) | (first | refine iE ?_ ?_ | refine iD ?_ ?_ | refine iQ ?_ ?_ | refine iV ?_ ?_) <;> intro _ | refine And.intro (by omega) ?_ | refine drawn_q ?_ | fail)
      exact ⟨⟨by first | exact g1 | rfl, g3⟩, hlt, hown, k0, k1, k2, fun _ => rfl, k4, k5, k6, k7⟩
    | 4, hoj =>
      obtain rfl := Option.some.inj hoj
      have h15 := k3 (waits_at' hwt rfl (by simp))
      repeat' (first | (simp (disch := omega) only [push_cast, ↓reduceIte, zA, zG, zB, zH, zI, zC, zJ, zK, zL, zD, zE, zF, zM, zN, zO, zP, zQ, reduceCtorEq, not_true_eq_false, not_false_eq_true, h15, c4]) | (first | refine iE ?_ ?_ | refine iD ?_ ?_ | refine iQ ?_ ?_ | refine iV ?_ ?_) <;> intro _ | refine And.intro (by omega) ?_ | refine drawn_q ?_ | fail)
      exact ⟨⟨g1, g3⟩, hlt, hown, k0, k1, k2, fun _ => by first | exact h15 | rfl, fun _ => rfl, k5, k6, k7⟩
    | 5, hoj =>
      obtain rfl := Option.some.inj hoj
      have h16 := k4 (waits_at' hwt rfl (by simp))
      repeat' (first | (simp (disch := omega) only [push_cast, ↓reduceIte, zA, zG, zB, zH, zI, zC, zJ, zK, zL, zD, zE, zF, zM, zN, zO, zP, zQ, reduceCtorEq, not_true_eq_false, not_false_eq_true, h16]) | (first | refine iE ?_ ?_ | refine iD ?_ ?_ | refine iQ ?_ ?_ | refine iV ?_ ?_) <;> intro _ | refine And.intro (by omega) ?_ | refine drawn_q ?_ | fail)
      exact ⟨⟨g1, g3⟩, hlt, hown, k0, k1, k2, k3, fun _ => by first | exact h16 | rfl, fun _ => rfl, k6, k7⟩
    | 6, hoj =>
      obtain rfl := Option.some.inj hoj
      have h14 := k2 (waits_at' hwt rfl (i := 2) (by simp))
      have h17 := k5 (waits_at' hwt rfl (i := 5) (by simp))
      repeat' (first | (simp (disch := omega) only [push_cast, ↓reduceIte, zA, zG, zB, zH, zI, zC, zJ, zK, zL, zD, zE, zF, zM, zN, zO, zP, zQ, reduceCtorEq, not_true_eq_false, not_false_eq_true, h14, h17]) | (first | refine iE ?_ ?_ | refine iD ?_ ?_ | refine iQ ?_ ?_ | refine iV ?_ ?_) <;> intro _ | refine And.intro (by omega) ?_ | refine drawn_q ?_ | fail)
      exact ⟨⟨g1, g3⟩, hlt, hown, k0, k1, fun _ => by first | exact h14 | rfl, k3, k4, fun _ => by first | exact h17 | rfl, fun _ => rfl, k7⟩
    | 7, hoj =>
      obtain rfl := Option.some.inj hoj
      have h18 := k6 (waits_at' hwt rfl (i := 6) (by simp))
      repeat' (first | (simp (disch := omega) only [push_cast, ↓reduceIte, zA, zG, zB, zH, zI, zC, zJ, zK, zL, zD, zE, zF, zM, zN, zO, zP, zQ, reduceCtorEq, not_true_eq_false, not_false_eq_true, h18]) | (first | refine iE ?_ ?_ | refine iD ?_ ?_ | refine iQ ?_ ?_ | refine iV ?_ ?_) <;> intro _ | refine And.intro (by omega) ?_ | refine drawn_q ?_ | fail)
      exact ⟨⟨g1, g3⟩, hlt, hown, k0, k1, k2, k3, k4, k5, fun _ => by first | exact h18 | rfl, fun _ => rfl⟩
    | n + 8, hoj => exact absurd hoj (by simp [r72_2])
  · intro D σ1 w2 hI hall
    obtain ⟨⟨g1, g3⟩, hlt, _, _, _, _, _, _, _, _, k7⟩ := hI
    exact hK σ1 w2 g1 (k7 (hall 7 (by decide))) hlt
set_option maxHeartbeats 4000000 in
theorem typed_c (q : QD) (w : World) (hq : q.Ok w) (hcn : q.wh.cnt ≤ 1000000) (hbl : q.bl.length ≤ 1000) (hsh : shOk q = true) : FnC Try.prog 72 #[.agg (qdC q).toArray] w fun v w' => v = .bool (tpOk q) ∧ Later w w' := by
  obtain ⟨to, tc, htv, ht1, ht2⟩ := RecS.slice hq.tv
  obtain ⟨bo, bc, hbv⟩ := Sl.slice hq.bv
  rw [List.length_map] at hbv
  have hvals : q.wh.vals.all (fun s => decide (VlOk s)) = q.wh.cvals.all (fun s => decide (VlOk s)) := by
    have h0 : decide (VlOk ⟨#[]⟩) = true := by decide
    unfold shOk at hsh
    simp only [Bool.and_eq_true] at hsh
    have hw := hsh.2
    unfold whOk at hw
    split at hw
    · simp only [Bool.and_eq_true, decide_eq_true_eq] at hw
      obtain ⟨⟨k1, k2⟩, k3⟩ := hw
      rw [FT.vals_is, FT.cvals_is, List.length_eq_zero_iff.1 k1, k3]
      rename_i h00
      rw [h00, if_neg (by omega)]
      simp [h0]
    · exact form_vals _ h0 _ _ hw
  have hap := apart_iff q.bl
  refine enter72 _ ?_
  unfold B72
  have eca : (Value.agg (qdC q).toArray).cells = (qdC q).toArray := rfl
  have l1 := later_alloc w (.cells (qdC q).toArray 42)
  have B1 := Blk.new w (qdC q).toArray 42
  repeat' (first | (simp (disch := omega) only [push_cast, ↓reduceIte, zA, zG, zB, zH, zI, zC, zJ, zK, zL, zD, zE, zF, zM, zN, zO, zP, zQ, reduceCtorEq, not_true_eq_false, not_false_eq_true, eca]) | (first | refine iE ?_ ?_ | refine iD ?_ ?_ | refine iQ ?_ ?_ | refine iV ?_ ?_) <;> intro _ | refine And.intro (by omega) ?_ | refine drawn_q ?_ | fail)
  generalize w.alloc (.cells (qdC q).toArray 42) = w1 at *
  generalize w.heap.size = kf at *
  have FQ : ∀ w', Later w1 w' → w'.cell? ⟨kf, 0, none⟩ = some (.slice to q.tl.length tc) ∧ w'.cell? ⟨kf, 1, none⟩ = some (.int .i64 q.fr) ∧ w'.cell? ⟨kf, 2, none⟩ = some (.int .i64 q.to) ∧ w'.cell? ⟨kf, 3, none⟩ = some (.int .i64 q.ev) ∧ w'.cell? ⟨kf, 4, none⟩ = some (.slice bo q.bl.length bc) ∧ w'.cell? ⟨kf, 10, none⟩ = some (.int .i64 q.od) ∧ w'.cell? ⟨kf, 11, none⟩ = some (.int .i64 q.lm) ∧ cellsAt w' ⟨kf, 5, none⟩ 4 = some (ftC q.wh) := by
    intro w' hl
    obtain ⟨a0, a1, a2, a3, a4, b5, b6, b7, b8, a9, a10, a11⟩ := qdAt (qdLater B1 hl)
    refine ⟨by rw [a0, htv], a1, a2, a3, by rw [a4, hbv], a10, a11, ?_⟩
    refine cellsAt_of 4 _ _ rfl fun i y hx => ?_
    rw [addr_add_eq]
    match i, hx with
    | 0, hx => cases hx; exact b5
    | 1, hx => cases hx; exact b6
    | 2, hx => cases hx; exact b7
    | 3, hx => cases hx; exact b8
    | n + 4, hx => exact absurd hx (by simp [ftC])
  obtain ⟨_, _, _, _, a4, _, _, _⟩ := FQ w1 (Later.refl _)
  repeat' (first | (simp (disch := omega) only [push_cast, ↓reduceIte, zA, zG, zB, zH, zI, zC, zJ, zK, zL, zD, zE, zF, zM, zN, zO, zP, zQ, reduceCtorEq, not_true_eq_false, not_false_eq_true, a4, addr_add_eq, Nat.zero_add]) | (first | refine iE ?_ ?_ | refine iD ?_ ?_ | refine iQ ?_ ?_ | refine iV ?_ ?_) <;> intro _ | refine And.intro (by omega) ?_ | refine drawn_q ?_ | fail)
  refine (values_c2 bo q.bl.length bc w1).mono ?_
  rintro _ w2 ⟨rfl, l2, B2⟩
  have hbs := hq.bv.later (l1.trans l2)
  rw [hbv] at hbs
  repeat' (first | (simp (disch := omega) only [push_cast, ↓reduceIte, zA, zG, zB, zH, zI, zC, zJ, zK, zL, zD, zE, zF, zM, zN, zO, zP, zQ, reduceCtorEq, not_true_eq_false, not_false_eq_true]) | (first | refine iE ?_ ?_ | refine iD ?_ ?_ | refine iQ ?_ ?_ | refine iV ?_ ?_) <;> intro _ | refine And.intro (by omega) ?_ | refine drawn_q ?_ | fail)
  refine (sortedT_c w1.heap.size _ q.bl w2 B2 hbs (by omega)).mono ?_
  rintro sv w3 ⟨ho3, l3⟩
  have hsl : (srtB q.bl).length = q.bl.length := srtB_len q.bl
  obtain ⟨so, sc, rfl⟩ := OwnZ.sl ho3
  have l13 := l2.trans l3
  repeat' (first | (simp (disch := omega) only [push_cast, ↓reduceIte, zA, zG, zB, zH, zI, zC, zJ, zK, zL, zD, zE, zF, zM, zN, zO, zP, zQ, reduceCtorEq, not_true_eq_false, not_false_eq_true]) | (first | refine iE ?_ ?_ | refine iD ?_ ?_ | refine iQ ?_ ?_ | refine iV ?_ ?_) <;> intro _ | refine And.intro (by omega) ?_ | fail)
  refine Or.inr (reg72_c (w0 := w1) (bo := bo) (bc := bc) (m := q.bl.length) rfl rfl l13 l2.size (fun w' hl => (FQ w' hl).2.2.2.2.1) ho3 (by omega) ?_)
  intro σ1 w4 e1 e4 l4
  have hap1 : decide (((Lib.compact (srtB q.bl)).length : Int) = (q.bl.length : Int)) = decide (q.bl.Pairwise (fun x y => x ≠ y)) := decide_eq_decide.2 (by rw [Int.ofNat_inj]; exact hap)
  rw [hap1] at e4
  obtain ⟨_, _, _, _, _, _, _, f4⟩ := FQ w4 l4
  repeat' (first | (simp (disch := omega) only [push_cast, ↓reduceIte, zA, zG, zB, zH, zI, zC, zJ, zK, zL, zD, zE, zF, zM, zN, zO, zP, zQ, reduceCtorEq, not_true_eq_false, not_false_eq_true, e1, f4, addr_add_eq, Nat.zero_add]) | (first | refine iE ?_ ?_ | refine iD ?_ ?_ | refine iQ ?_ ?_ | refine iV ?_ ?_) <;> intro _ | refine And.intro (by omega) ?_ | refine drawn_q ?_ | fail)
  have hwh := hq.wh.later (l1.trans l4)
  refine (conditions_c q.wh w4 hwh hcn).mono ?_
  rintro cv w5 ⟨hc5, l5⟩
  have hcr := OwnR.s hc5
  obtain ⟨co, cc, rfl, _, _⟩ := RecS.slice hcr
  repeat' (first | (simp (disch := omega) only [push_cast, ↓reduceIte, zA, zG, zB, zH, zI, zC, zJ, zK, zL, zD, zE, zF, zM, zN, zO, zP, zQ, reduceCtorEq, not_true_eq_false, not_false_eq_true]) | (first | refine iE ?_ ?_ | refine iD ?_ ?_ | refine iQ ?_ ?_ | refine iV ?_ ?_) <;> intro _ | refine And.intro (by omega) ?_ | refine drawn_q ?_ | fail)
  refine (fcontainsF_c _ _ _ #[] (fun k => !decide (VlOk k.value)) w5 hcr (fun x _ w' hl => typed1_c x w')).mono ?_
  rintro _ w6 ⟨rfl, l6⟩
  have hvb : q.wh.conds.any (fun k => !decide (VlOk k.value)) = !q.wh.vals.all (fun s => decide (VlOk s)) := by
    rw [any_not, hvals, ← FT.conds_vals, List.all_map]; rfl
  rw [hvb]
  have l16 := l4.trans (l5.trans l6)
  have l06 := l1.trans l16
  obtain ⟨f0, f1, f2, f3, _, f10, f11, _⟩ := FQ w6 l16
  have htp : tpOk q = (decide (q.bl.Pairwise (fun x y => x ≠ y)) && q.wh.vals.all (fun s => decide (VlOk s)) && evOk q && decide (tyNum q)) := rfl
  have hIe := hq.ev
  have hneg : IntKind.i64.wrap (-(q.tl.length : Int)) = -(q.tl.length : Int) := by simp (disch := omega) only [push_cast, ↓reduceIte, zA, zG, zB, zH, zI, zC, zJ, zK, zL, zD, zE, zF, zM, zN, zO, zP, zQ, reduceCtorEq, not_true_eq_false, not_false_eq_true]
  have hev : evOk q = (decide (q.ev = 0) || decide (Rt q.ev)) := by
    unfold evOk grOk Rt
    rw [← Bool.decide_and]
  generalize decide (q.bl.Pairwise (fun x y => x ≠ y)) = a at *
  generalize q.wh.vals.all (fun s => decide (VlOk s)) = b at *
  cases a with
  | false =>
    by_cases t1 : 0 ≤ q.fr
    case neg =>
      have dt1 : decide (0 ≤ q.fr) = false := decide_eq_false t1
      have ht : tpOk q = false := by rw [htp]; rw [decide_eq_false (p := tyNum q) (fun h => by unfold tyNum at h; omega), Bool.and_false]
      rw [ht]
      repeat' (first | (simp (disch := omega) only [push_cast, ↓reduceIte, zA, zG, zB, zH, zI, zC, zJ, zK, zL, zD, zE, zF, zM, zN, zO, zP, zQ, reduceCtorEq, not_true_eq_false, not_false_eq_true, e1, e4, f0, f1, f2, f3, f10, f11, hneg, dt1, addr_add_eq, Nat.zero_add]) | (first | refine iE ?_ ?_ | refine iD ?_ ?_ | refine iQ ?_ ?_ | refine iV ?_ ?_) <;> intro _ | refine And.intro (by omega) ?_ | refine drawn_q ?_ | fail)
      first | exact ⟨rfl, l06⟩ | exact l06
    have dt1 : decide (0 ≤ q.fr) = true := decide_eq_true t1
    by_cases t2 : q.fr < q.to
    case neg =>
      have dt2 : decide (q.fr < q.to) = false := decide_eq_false t2
      have ht : tpOk q = false := by rw [htp]; rw [decide_eq_false (p := tyNum q) (fun h => by unfold tyNum at h; omega), Bool.and_false]
      rw [ht]
      repeat' (first | (simp (disch := omega) only [push_cast, ↓reduceIte, zA, zG, zB, zH, zI, zC, zJ, zK, zL, zD, zE, zF, zM, zN, zO, zP, zQ, reduceCtorEq, not_true_eq_false, not_false_eq_true, e1, e4, f0, f1, f2, f3, f10, f11, hneg, dt1, dt2, addr_add_eq, Nat.zero_add]) | (first | refine iE ?_ ?_ | refine iD ?_ ?_ | refine iQ ?_ ?_ | refine iV ?_ ?_) <;> intro _ | refine And.intro (by omega) ?_ | refine drawn_q ?_ | fail)
      first | exact ⟨rfl, l06⟩ | exact l06
    have dt2 : decide (q.fr < q.to) = true := decide_eq_true t2
    by_cases t3 : q.to ≤ 1099511627776
    case neg =>
      have dt3 : decide (q.to ≤ 1099511627776) = false := decide_eq_false t3
      have ht : tpOk q = false := by rw [htp]; rw [decide_eq_false (p := tyNum q) (fun h => by unfold tyNum at h; omega), Bool.and_false]
      rw [ht]
      repeat' (first | (simp (disch := omega) only [push_cast, ↓reduceIte, zA, zG, zB, zH, zI, zC, zJ, zK, zL, zD, zE, zF, zM, zN, zO, zP, zQ, reduceCtorEq, not_true_eq_false, not_false_eq_true, e1, e4, f0, f1, f2, f3, f10, f11, hneg, dt1, dt2, dt3, addr_add_eq, Nat.zero_add]) | (first | refine iE ?_ ?_ | refine iD ?_ ?_ | refine iQ ?_ ?_ | refine iV ?_ ?_) <;> intro _ | refine And.intro (by omega) ?_ | refine drawn_q ?_ | fail)
      first | exact ⟨rfl, l06⟩ | exact l06
    have dt3 : decide (q.to ≤ 1099511627776) = true := decide_eq_true t3
    by_cases hz : q.ev = 0
    case pos =>
      have dz : decide (q.ev = 0) = true := decide_eq_true hz
      have hevv : evOk q = true := by rw [hev, dz]; rfl
      have ht : tpOk q = false := by rw [htp]; simp
      rw [ht]
      repeat' (first | (simp (disch := omega) only [push_cast, ↓reduceIte, zA, zG, zB, zH, zI, zC, zJ, zK, zL, zD, zE, zF, zM, zN, zO, zP, zQ, reduceCtorEq, not_true_eq_false, not_false_eq_true, e1, e4, f0, f1, f2, f3, f10, f11, hneg, dt1, dt2, dt3, dz, addr_add_eq, Nat.zero_add]) | (first | refine iE ?_ ?_ | refine iD ?_ ?_ | refine iQ ?_ ?_ | refine iV ?_ ?_) <;> intro _ | refine And.intro (by omega) ?_ | refine drawn_q ?_ | fail)
      first | exact ⟨rfl, l06⟩ | exact l06
    have dz : decide (q.ev = 0) = false := decide_eq_false hz
    repeat' (first | (simp (disch := omega) only [push_cast, ↓reduceIte, zA, zG, zB, zH, zI, zC, zJ, zK, zL, zD, zE, zF, zM, zN, zO, zP, zQ, reduceCtorEq, not_true_eq_false, not_false_eq_true, e1, e4, f0, f1, f2, f3, f10, f11, hneg, dt1, dt2, dt3, dz, addr_add_eq, Nat.zero_add]) | (first | refine iE ?_ ?_ | refine iD ?_ ?_ | refine iQ ?_ ?_ | refine iV ?_ ?_) <;> intro _ | refine And.intro (by omega) ?_ | refine drawn_q ?_ | fail)
    refine (bright_c q.ev w6 hIe).mono ?_
    rintro _ w7 ⟨rfl, h7⟩
    obtain rfl := h7.symm
    cases hR : decide (Rt q.ev) with
    | false =>
      have hevv : evOk q = false := by rw [hev, dz, hR]; rfl
      have ht : tpOk q = false := by rw [htp]; rw [hevv]; simp
      rw [ht]
      repeat' (first | (simp (disch := omega) only [push_cast, ↓reduceIte, zA, zG, zB, zH, zI, zC, zJ, zK, zL, zD, zE, zF, zM, zN, zO, zP, zQ, reduceCtorEq, not_true_eq_false, not_false_eq_true, e1, e4, f0, f1, f2, f3, f10, f11, hneg, dt1, dt2, dt3, dz, addr_add_eq, Nat.zero_add]) | (first | refine iE ?_ ?_ | refine iD ?_ ?_ | refine iQ ?_ ?_ | refine iV ?_ ?_) <;> intro _ | refine And.intro (by omega) ?_ | refine drawn_q ?_ | fail)
      first | exact ⟨rfl, l06⟩ | exact l06
    | true =>
      have hevv : evOk q = true := by rw [hev, dz, hR]; rfl
      have ht : tpOk q = false := by rw [htp]; simp
      rw [ht]
      repeat' (first | (simp (disch := omega) only [push_cast, ↓reduceIte, zA, zG, zB, zH, zI, zC, zJ, zK, zL, zD, zE, zF, zM, zN, zO, zP, zQ, reduceCtorEq, not_true_eq_false, not_false_eq_true, e1, e4, f0, f1, f2, f3, f10, f11, hneg, dt1, dt2, dt3, dz, addr_add_eq, Nat.zero_add]) | (first | refine iE ?_ ?_ | refine iD ?_ ?_ | refine iQ ?_ ?_ | refine iV ?_ ?_) <;> intro _ | refine And.intro (by omega) ?_ | refine drawn_q ?_ | fail)
      first | exact ⟨rfl, l06⟩ | exact l06
  | true =>
  cases b with
  | false =>
    by_cases t1 : 0 ≤ q.fr
    case neg =>
      have dt1 : decide (0 ≤ q.fr) = false := decide_eq_false t1
      have ht : tpOk q = false := by rw [htp]; rw [decide_eq_false (p := tyNum q) (fun h => by unfold tyNum at h; omega), Bool.and_false]
      rw [ht]
      repeat' (first | (simp (disch := omega) only [push_cast, ↓reduceIte, zA, zG, zB, zH, zI, zC, zJ, zK, zL, zD, zE, zF, zM, zN, zO, zP, zQ, reduceCtorEq, not_true_eq_false, not_false_eq_true, e1, e4, f0, f1, f2, f3, f10, f11, hneg, dt1, addr_add_eq, Nat.zero_add]) | (first | refine iE ?_ ?_ | refine iD ?_ ?_ | refine iQ ?_ ?_ | refine iV ?_ ?_) <;> intro _ | refine And.intro (by omega) ?_ | refine drawn_q ?_ | fail)
      first | exact ⟨rfl, l06⟩ | exact l06
    have dt1 : decide (0 ≤ q.fr) = true := decide_eq_true t1
    by_cases t2 : q.fr < q.to
    case neg =>
      have dt2 : decide (q.fr < q.to) = false := decide_eq_false t2
      have ht : tpOk q = false := by rw [htp]; rw [decide_eq_false (p := tyNum q) (fun h => by unfold tyNum at h; omega), Bool.and_false]
      rw [ht]
      repeat' (first | (simp (disch := omega) only [push_cast, ↓reduceIte, zA, zG, zB, zH, zI, zC, zJ, zK, zL, zD, zE, zF, zM, zN, zO, zP, zQ, reduceCtorEq, not_true_eq_false, not_false_eq_true, e1, e4, f0, f1, f2, f3, f10, f11, hneg, dt1, dt2, addr_add_eq, Nat.zero_add]) | (first | refine iE ?_ ?_ | refine iD ?_ ?_ | refine iQ ?_ ?_ | refine iV ?_ ?_) <;> intro _ | refine And.intro (by omega) ?_ | refine drawn_q ?_ | fail)
      first | exact ⟨rfl, l06⟩ | exact l06
    have dt2 : decide (q.fr < q.to) = true := decide_eq_true t2
    by_cases t3 : q.to ≤ 1099511627776
    case neg =>
      have dt3 : decide (q.to ≤ 1099511627776) = false := decide_eq_false t3
      have ht : tpOk q = false := by rw [htp]; rw [decide_eq_false (p := tyNum q) (fun h => by unfold tyNum at h; omega), Bool.and_false]
      rw [ht]
      repeat' (first | (simp (disch := omega) only [push_cast, ↓reduceIte, zA, zG, zB, zH, zI, zC, zJ, zK, zL, zD, zE, zF, zM, zN, zO, zP, zQ, reduceCtorEq, not_true_eq_false, not_false_eq_true, e1, e4, f0, f1, f2, f3, f10, f11, hneg, dt1, dt2, dt3, addr_add_eq, Nat.zero_add]) | (first | refine iE ?_ ?_ | refine iD ?_ ?_ | refine iQ ?_ ?_ | refine iV ?_ ?_) <;> intro _ | refine And.intro (by omega) ?_ | refine drawn_q ?_ | fail)
      first | exact ⟨rfl, l06⟩ | exact l06
    have dt3 : decide (q.to ≤ 1099511627776) = true := decide_eq_true t3
    by_cases hz : q.ev = 0
    case pos =>
      have dz : decide (q.ev = 0) = true := decide_eq_true hz
      have hevv : evOk q = true := by rw [hev, dz]; rfl
      have ht : tpOk q = false := by rw [htp]; simp
      rw [ht]
      repeat' (first | (simp (disch := omega) only [push_cast, ↓reduceIte, zA, zG, zB, zH, zI, zC, zJ, zK, zL, zD, zE, zF, zM, zN, zO, zP, zQ, reduceCtorEq, not_true_eq_false, not_false_eq_true, e1, e4, f0, f1, f2, f3, f10, f11, hneg, dt1, dt2, dt3, dz, addr_add_eq, Nat.zero_add]) | (first | refine iE ?_ ?_ | refine iD ?_ ?_ | refine iQ ?_ ?_ | refine iV ?_ ?_) <;> intro _ | refine And.intro (by omega) ?_ | refine drawn_q ?_ | fail)
      first | exact ⟨rfl, l06⟩ | exact l06
    have dz : decide (q.ev = 0) = false := decide_eq_false hz
    repeat' (first | (simp (disch := omega) only [push_cast, ↓reduceIte, zA, zG, zB, zH, zI, zC, zJ, zK, zL, zD, zE, zF, zM, zN, zO, zP, zQ, reduceCtorEq, not_true_eq_false, not_false_eq_true, e1, e4, f0, f1, f2, f3, f10, f11, hneg, dt1, dt2, dt3, dz, addr_add_eq, Nat.zero_add]) | (first | refine iE ?_ ?_ | refine iD ?_ ?_ | refine iQ ?_ ?_ | refine iV ?_ ?_) <;> intro _ | refine And.intro (by omega) ?_ | refine drawn_q ?_ | fail)
    refine (bright_c q.ev w6 hIe).mono ?_
    rintro _ w7 ⟨rfl, h7⟩
    obtain rfl := h7.symm
    cases hR : decide (Rt q.ev) with
    | false =>
      have hevv : evOk q = false := by rw [hev, dz, hR]; rfl
      have ht : tpOk q = false := by rw [htp]; rw [hevv]; simp
      rw [ht]
      repeat' (first | (simp (disch := omega) only [push_cast, ↓reduceIte, zA, zG, zB, zH, zI, zC, zJ, zK, zL, zD, zE, zF, zM, zN, zO, zP, zQ, reduceCtorEq, not_true_eq_false, not_false_eq_true, e1, e4, f0, f1, f2, f3, f10, f11, hneg, dt1, dt2, dt3, dz, addr_add_eq, Nat.zero_add]) | (first | refine iE ?_ ?_ | refine iD ?_ ?_ | refine iQ ?_ ?_ | refine iV ?_ ?_) <;> intro _ | refine And.intro (by omega) ?_ | refine drawn_q ?_ | fail)
      first | exact ⟨rfl, l06⟩ | exact l06
    | true =>
      have hevv : evOk q = true := by rw [hev, dz, hR]; rfl
      have ht : tpOk q = false := by rw [htp]; simp
      rw [ht]
      repeat' (first | (simp (disch := omega) only [push_cast, ↓reduceIte, zA, zG, zB, zH, zI, zC, zJ, zK, zL, zD, zE, zF, zM, zN, zO, zP, zQ, reduceCtorEq, not_true_eq_false, not_false_eq_true, e1, e4, f0, f1, f2, f3, f10, f11, hneg, dt1, dt2, dt3, dz, addr_add_eq, Nat.zero_add]) | (first | refine iE ?_ ?_ | refine iD ?_ ?_ | refine iQ ?_ ?_ | refine iV ?_ ?_) <;> intro _ | refine And.intro (by omega) ?_ | refine drawn_q ?_ | fail)
      first | exact ⟨rfl, l06⟩ | exact l06
  | true =>
    by_cases t1 : 0 ≤ q.fr
    case neg =>
      have dt1 : decide (0 ≤ q.fr) = false := decide_eq_false t1
      have ht : tpOk q = false := by rw [htp]; rw [decide_eq_false (p := tyNum q) (fun h => by unfold tyNum at h; omega), Bool.and_false]
      rw [ht]
      repeat' (first | (simp (disch := omega) only [push_cast, ↓reduceIte, zA, zG, zB, zH, zI, zC, zJ, zK, zL, zD, zE, zF, zM, zN, zO, zP, zQ, reduceCtorEq, not_true_eq_false, not_false_eq_true, e1, e4, f0, f1, f2, f3, f10, f11, hneg, dt1, addr_add_eq, Nat.zero_add]) | (first | refine iE ?_ ?_ | refine iD ?_ ?_ | refine iQ ?_ ?_ | refine iV ?_ ?_) <;> intro _ | refine And.intro (by omega) ?_ | refine drawn_q ?_ | fail)
      first | exact ⟨rfl, l06⟩ | exact l06
    have dt1 : decide (0 ≤ q.fr) = true := decide_eq_true t1
    by_cases t2 : q.fr < q.to
    case neg =>
      have dt2 : decide (q.fr < q.to) = false := decide_eq_false t2
      have ht : tpOk q = false := by rw [htp]; rw [decide_eq_false (p := tyNum q) (fun h => by unfold tyNum at h; omega), Bool.and_false]
      rw [ht]
      repeat' (first | (simp (disch := omega) only [push_cast, ↓reduceIte, zA, zG, zB, zH, zI, zC, zJ, zK, zL, zD, zE, zF, zM, zN, zO, zP, zQ, reduceCtorEq, not_true_eq_false, not_false_eq_true, e1, e4, f0, f1, f2, f3, f10, f11, hneg, dt1, dt2, addr_add_eq, Nat.zero_add]) | (first | refine iE ?_ ?_ | refine iD ?_ ?_ | refine iQ ?_ ?_ | refine iV ?_ ?_) <;> intro _ | refine And.intro (by omega) ?_ | refine drawn_q ?_ | fail)
      first | exact ⟨rfl, l06⟩ | exact l06
    have dt2 : decide (q.fr < q.to) = true := decide_eq_true t2
    by_cases t3 : q.to ≤ 1099511627776
    case neg =>
      have dt3 : decide (q.to ≤ 1099511627776) = false := decide_eq_false t3
      have ht : tpOk q = false := by rw [htp]; rw [decide_eq_false (p := tyNum q) (fun h => by unfold tyNum at h; omega), Bool.and_false]
      rw [ht]
      repeat' (first | (simp (disch := omega) only [push_cast, ↓reduceIte, zA, zG, zB, zH, zI, zC, zJ, zK, zL, zD, zE, zF, zM, zN, zO, zP, zQ, reduceCtorEq, not_true_eq_false, not_false_eq_true, e1, e4, f0, f1, f2, f3, f10, f11, hneg, dt1, dt2, dt3, addr_add_eq, Nat.zero_add]) | (first | refine iE ?_ ?_ | refine iD ?_ ?_ | refine iQ ?_ ?_ | refine iV ?_ ?_) <;> intro _ | refine And.intro (by omega) ?_ | refine drawn_q ?_ | fail)
      first | exact ⟨rfl, l06⟩ | exact l06
    have dt3 : decide (q.to ≤ 1099511627776) = true := decide_eq_true t3
    by_cases hz : q.ev = 0
    case pos =>
      have dz : decide (q.ev = 0) = true := decide_eq_true hz
      have hevv : evOk q = true := by rw [hev, dz]; rfl
      by_cases o1 : -(q.tl.length : Int) ≤ q.od
      case neg =>
        have do1 : decide (-(q.tl.length : Int) ≤ q.od) = false := decide_eq_false o1
        have ht : tpOk q = false := by rw [htp]; rw [decide_eq_false (p := tyNum q) (fun h => by unfold tyNum at h; omega), Bool.and_false]
        rw [ht]
        repeat' (first | (simp (disch := omega) only [push_cast, ↓reduceIte, zA, zG, zB, zH, zI, zC, zJ, zK, zL, zD, zE, zF, zM, zN, zO, zP, zQ, reduceCtorEq, not_true_eq_false, not_false_eq_true, e1, e4, f0, f1, f2, f3, f10, f11, hneg, dt1, dt2, dt3, dz, do1, addr_add_eq, Nat.zero_add]) | (first | refine iE ?_ ?_ | refine iD ?_ ?_ | refine iQ ?_ ?_ | refine iV ?_ ?_) <;> intro _ | refine And.intro (by omega) ?_ | refine drawn_q ?_ | fail)
        first | exact ⟨rfl, l06⟩ | exact l06
      have do1 : decide (-(q.tl.length : Int) ≤ q.od) = true := decide_eq_true o1
      by_cases o2 : q.od ≤ (q.tl.length : Int)
      case neg =>
        have do2 : decide (q.od ≤ (q.tl.length : Int)) = false := decide_eq_false o2
        have ht : tpOk q = false := by rw [htp]; rw [decide_eq_false (p := tyNum q) (fun h => by unfold tyNum at h; omega), Bool.and_false]
        rw [ht]
        repeat' (first | (simp (disch := omega) only [push_cast, ↓reduceIte, zA, zG, zB, zH, zI, zC, zJ, zK, zL, zD, zE, zF, zM, zN, zO, zP, zQ, reduceCtorEq, not_true_eq_false, not_false_eq_true, e1, e4, f0, f1, f2, f3, f10, f11, hneg, dt1, dt2, dt3, dz, do1, do2, addr_add_eq, Nat.zero_add]) | (first | refine iE ?_ ?_ | refine iD ?_ ?_ | refine iQ ?_ ?_ | refine iV ?_ ?_) <;> intro _ | refine And.intro (by omega) ?_ | refine drawn_q ?_ | fail)
        first | exact ⟨rfl, l06⟩ | exact l06
      have do2 : decide (q.od ≤ (q.tl.length : Int)) = true := decide_eq_true o2
      by_cases o3 : 0 ≤ q.lm
      case neg =>
        have do3 : decide (0 ≤ q.lm) = false := decide_eq_false o3
        have ht : tpOk q = false := by rw [htp]; rw [decide_eq_false (p := tyNum q) (fun h => by unfold tyNum at h; omega), Bool.and_false]
        rw [ht]
        repeat' (first | (simp (disch := omega) only [push_cast, ↓reduceIte, zA, zG, zB, zH, zI, zC, zJ, zK, zL, zD, zE, zF, zM, zN, zO, zP, zQ, reduceCtorEq, not_true_eq_false, not_false_eq_true, e1, e4, f0, f1, f2, f3, f10, f11, hneg, dt1, dt2, dt3, dz, do1, do2, do3, addr_add_eq, Nat.zero_add]) | (first | refine iE ?_ ?_ | refine iD ?_ ?_ | refine iQ ?_ ?_ | refine iV ?_ ?_) <;> intro _ | refine And.intro (by omega) ?_ | refine drawn_q ?_ | fail)
        first | exact ⟨rfl, l06⟩ | exact l06
      have do3 : decide (0 ≤ q.lm) = true := decide_eq_true o3
      by_cases o4 : q.lm ≤ 1000
      case neg =>
        have do4 : decide (q.lm ≤ 1000) = false := decide_eq_false o4
        have ht : tpOk q = false := by rw [htp]; rw [decide_eq_false (p := tyNum q) (fun h => by unfold tyNum at h; omega), Bool.and_false]
        rw [ht]
        repeat' (first | (simp (disch := omega) only [push_cast, ↓reduceIte, zA, zG, zB, zH, zI, zC, zJ, zK, zL, zD, zE, zF, zM, zN, zO, zP, zQ, reduceCtorEq, not_true_eq_false, not_false_eq_true, e1, e4, f0, f1, f2, f3, f10, f11, hneg, dt1, dt2, dt3, dz, do1, do2, do3, do4, addr_add_eq, Nat.zero_add]) | (first | refine iE ?_ ?_ | refine iD ?_ ?_ | refine iQ ?_ ?_ | refine iV ?_ ?_) <;> intro _ | refine And.intro (by omega) ?_ | refine drawn_q ?_ | fail)
        first | exact ⟨rfl, l06⟩ | exact l06
      have do4 : decide (q.lm ≤ 1000) = true := decide_eq_true o4
      have ht : tpOk q = true := by rw [htp]; rw [hevv, decide_eq_true (p := tyNum q) (by unfold tyNum; omega)]; rfl
      rw [ht]
      repeat' (first | (simp (disch := omega) only [push_cast, ↓reduceIte, zA, zG, zB, zH, zI, zC, zJ, zK, zL, zD, zE, zF, zM, zN, zO, zP, zQ, reduceCtorEq, not_true_eq_false, not_false_eq_true, e1, e4, f0, f1, f2, f3, f10, f11, hneg, dt1, dt2, dt3, dz, do1, do2, do3, do4, addr_add_eq, Nat.zero_add]) | (first | refine iE ?_ ?_ | refine iD ?_ ?_ | refine iQ ?_ ?_ | refine iV ?_ ?_) <;> intro _ | refine And.intro (by omega) ?_ | refine drawn_q ?_ | fail)
      first | exact ⟨rfl, l06⟩ | exact l06
    have dz : decide (q.ev = 0) = false := decide_eq_false hz
    repeat' (first | (simp (disch := omega) only [push_cast, ↓reduceIte, zA, zG, zB, zH, zI, zC, zJ, zK, zL, zD, zE, zF, zM, zN, zO, zP, zQ, reduceCtorEq, not_true_eq_false, not_false_eq_true, e1, e4, f0, f1, f2, f3, f10, f11, hneg, dt1, dt2, dt3, dz, addr_add_eq, Nat.zero_add]) | (first | refine iE ?_ ?_ | refine iD ?_ ?_ | refine iQ ?_ ?_ | refine iV ?_ ?_) <;> intro _ | refine And.intro (by omega) ?_ | refine drawn_q ?_ | fail)
    refine (bright_c q.ev w6 hIe).mono ?_
    rintro _ w7 ⟨rfl, h7⟩
    obtain rfl := h7.symm
    cases hR : decide (Rt q.ev) with
    | false =>
      have hevv : evOk q = false := by rw [hev, dz, hR]; rfl
      have ht : tpOk q = false := by rw [htp]; rw [hevv]; simp
      rw [ht]
      repeat' (first | (simp (disch := omega) only [push_cast, ↓reduceIte, zA, zG, zB, zH, zI, zC, zJ, zK, zL, zD, zE, zF, zM, zN, zO, zP, zQ, reduceCtorEq, not_true_eq_false, not_false_eq_true, e1, e4, f0, f1, f2, f3, f10, f11, hneg, dt1, dt2, dt3, dz, addr_add_eq, Nat.zero_add]) | (first | refine iE ?_ ?_ | refine iD ?_ ?_ | refine iQ ?_ ?_ | refine iV ?_ ?_) <;> intro _ | refine And.intro (by omega) ?_ | refine drawn_q ?_ | fail)
      first | exact ⟨rfl, l06⟩ | exact l06
    | true =>
      have hevv : evOk q = true := by rw [hev, dz, hR]; rfl
      by_cases o1 : -(q.tl.length : Int) ≤ q.od
      case neg =>
        have do1 : decide (-(q.tl.length : Int) ≤ q.od) = false := decide_eq_false o1
        have ht : tpOk q = false := by rw [htp]; rw [decide_eq_false (p := tyNum q) (fun h => by unfold tyNum at h; omega), Bool.and_false]
        rw [ht]
        repeat' (first | (simp (disch := omega) only [push_cast, ↓reduceIte, zA, zG, zB, zH, zI, zC, zJ, zK, zL, zD, zE, zF, zM, zN, zO, zP, zQ, reduceCtorEq, not_true_eq_false, not_false_eq_true, e1, e4, f0, f1, f2, f3, f10, f11, hneg, dt1, dt2, dt3, dz, do1, addr_add_eq, Nat.zero_add]) | (first | refine iE ?_ ?_ | refine iD ?_ ?_ | refine iQ ?_ ?_ | refine iV ?_ ?_) <;> intro _ | refine And.intro (by omega) ?_ | refine drawn_q ?_ | fail)
        first | exact ⟨rfl, l06⟩ | exact l06
      have do1 : decide (-(q.tl.length : Int) ≤ q.od) = true := decide_eq_true o1
      by_cases o2 : q.od ≤ (q.tl.length : Int)
      case neg =>
        have do2 : decide (q.od ≤ (q.tl.length : Int)) = false := decide_eq_false o2
        have ht : tpOk q = false := by rw [htp]; rw [decide_eq_false (p := tyNum q) (fun h => by unfold tyNum at h; omega), Bool.and_false]
        rw [ht]
        repeat' (first | (simp (disch := omega) only [push_cast, ↓reduceIte, zA, zG, zB, zH, zI, zC, zJ, zK, zL, zD, zE, zF, zM, zN, zO, zP, zQ, reduceCtorEq, not_true_eq_false, not_false_eq_true, e1, e4, f0, f1, f2, f3, f10, f11, hneg, dt1, dt2, dt3, dz, do1, do2, addr_add_eq, Nat.zero_add]) | (first | refine iE ?_ ?_ | refine iD ?_ ?_ | refine iQ ?_ ?_ | refine iV ?_ ?_) <;> intro _ | refine And.intro (by omega) ?_ | refine drawn_q ?_ | fail)
        first | exact ⟨rfl, l06⟩ | exact l06
      have do2 : decide (q.od ≤ (q.tl.length : Int)) = true := decide_eq_true o2
      by_cases o3 : 0 ≤ q.lm
      case neg =>
        have do3 : decide (0 ≤ q.lm) = false := decide_eq_false o3
        have ht : tpOk q = false := by rw [htp]; rw [decide_eq_false (p := tyNum q) (fun h => by unfold tyNum at h; omega), Bool.and_false]
        rw [ht]
        repeat' (first | (simp (disch := omega) only [push_cast, ↓reduceIte, zA, zG, zB, zH, zI, zC, zJ, zK, zL, zD, zE, zF, zM, zN, zO, zP, zQ, reduceCtorEq, not_true_eq_false, not_false_eq_true, e1, e4, f0, f1, f2, f3, f10, f11, hneg, dt1, dt2, dt3, dz, do1, do2, do3, addr_add_eq, Nat.zero_add]) | (first | refine iE ?_ ?_ | refine iD ?_ ?_ | refine iQ ?_ ?_ | refine iV ?_ ?_) <;> intro _ | refine And.intro (by omega) ?_ | refine drawn_q ?_ | fail)
        first | exact ⟨rfl, l06⟩ | exact l06
      have do3 : decide (0 ≤ q.lm) = true := decide_eq_true o3
      by_cases o4 : q.lm ≤ 1000
      case neg =>
        have do4 : decide (q.lm ≤ 1000) = false := decide_eq_false o4
        have ht : tpOk q = false := by rw [htp]; rw [decide_eq_false (p := tyNum q) (fun h => by unfold tyNum at h; omega), Bool.and_false]
        rw [ht]
        repeat' (first | (simp (disch := omega) only [push_cast, ↓reduceIte, zA, zG, zB, zH, zI, zC, zJ, zK, zL, zD, zE, zF, zM, zN, zO, zP, zQ, reduceCtorEq, not_true_eq_false, not_false_eq_true, e1, e4, f0, f1, f2, f3, f10, f11, hneg, dt1, dt2, dt3, dz, do1, do2, do3, do4, addr_add_eq, Nat.zero_add]) | (first | refine iE ?_ ?_ | refine iD ?_ ?_ | refine iQ ?_ ?_ | refine iV ?_ ?_) <;> intro _ | refine And.intro (by omega) ?_ | refine drawn_q ?_ | fail)
        first | exact ⟨rfl, l06⟩ | exact l06
      have do4 : decide (q.lm ≤ 1000) = true := decide_eq_true o4
      have ht : tpOk q = true := by rw [htp]; rw [hevv, decide_eq_true (p := tyNum q) (by unfold tyNum; omega)]; rfl
      rw [ht]
      repeat' (first | (simp (disch := omega) only [push_cast, ↓reduceIte, zA, zG, zB, zH, zI, zC, zJ, zK, zL, zD, zE, zF, zM, zN, zO, zP, zQ, reduceCtorEq, not_true_eq_false, not_false_eq_true, e1, e4, f0, f1, f2, f3, f10, f11, hneg, dt1, dt2, dt3, dz, do1, do2, do3, do4, addr_add_eq, Nat.zero_add]) | (first | refine iE ?_ ?_ | refine iD ?_ ?_ | refine iQ ?_ ?_ | refine iV ?_ ?_) <;> intro _ | refine And.intro (by omega) ?_ | refine drawn_q ?_ | fail)
      first | exact ⟨rfl, l06⟩ | exact l06
end Go.Proofs.Ytnofalhkapmcnaa
end
section
set_option linter.unusedSimpArgs false
namespace Go.Proofs.Ytnofalhkapmcnaa
open Go.Vc Go.Key Go.Bkt
set_option maxRecDepth 100000
set_option maxHeartbeats 1000000 in
theorem tcheck_c (dv mv : Value) (d m : List ByteArray) (q : QD) (w : World) (h : ScIs w dv mv d m) (hq : q.Ok w) (hcn : q.wh.cnt ≤ 1000000) (hbl : q.bl.length ≤ 1000) (htl : q.tl.length ≤ 1000) (hhl : q.hl.length ≤ 1000) : FnC Try.prog 28 #[scV dv mv, .agg (qdC q).toArray] w fun v w' => v = .int .i64 (ckQ d m q) ∧ Later w w' := by
  have esc : scV dv mv = .agg #[dv, mv] := rfl
  rw [esc]
  refine enter28 _ _ ?_
  unfold B28
  have eca : (Value.agg (qdC q).toArray).cells = (qdC q).toArray := rfl
  have ecb : (Value.agg #[dv, mv]).cells = #[dv, mv] := rfl
  obtain ⟨l1, s1, F⟩ := box2 w dv mv 24
  have B2 := Blk.new (w.alloc (.cells #[dv, mv] 24)) (qdC q).toArray 42
  have l2 := later_alloc (w.alloc (.cells #[dv, mv] 24)) (.cells (qdC q).toArray 42)
  rw [s1] at B2
  repeat' (first | (simp (disch := omega) only [push_cast, ↓reduceIte, zA, zG, zB, zH, zI, zC, zJ, zK, zL, zD, zE, zF, zM, zN, zO, zP, zQ, reduceCtorEq, not_true_eq_false, not_false_eq_true, eca, ecb, s1]) | (first | refine iE ?_ ?_ | refine iD ?_ ?_ | refine iQ ?_ ?_ | refine iV ?_ ?_) <;> intro _ | refine And.intro (by omega) ?_ | fail)
  have l12 := l1.trans l2
  have FF : ∀ w', Later ((w.alloc (.cells #[dv, mv] 24)).alloc (.cells (qdC q).toArray 42)) w' → cellsAt w' ⟨w.heap.size, 0, none⟩ 2 = some [dv, mv] := fun w' hl => (F w' (l2.trans hl)).2.2
  clear F
  generalize (w.alloc (.cells #[dv, mv] 24)).alloc (.cells (qdC q).toArray 42) = w1 at *
  generalize hkf : w.heap.size = kf at *
  have h1 := h.later l12
  have q1 := hq.later l12
  have QQ : ∀ w', Later w1 w' → cellsAt w' ⟨kf + 1, 0, none⟩ 12 = some (qdC q) := fun w' hl => Blk.cellsAt (l := qdC q) (qdLater B2 hl)
  have c1 := QQ w1 (Later.refl _)
  repeat' (first | (simp (disch := omega) only [push_cast, ↓reduceIte, zA, zG, zB, zH, zI, zC, zJ, zK, zL, zD, zE, zF, zM, zN, zO, zP, zQ, reduceCtorEq, not_true_eq_false, not_false_eq_true, c1]) | (first | refine iE ?_ ?_ | refine iD ?_ ?_ | refine iQ ?_ ?_ | refine iV ?_ ?_) <;> intro _ | refine And.intro (by omega) ?_ | refine drawn_q ?_ | fail)
  refine (shaped_c q w1 q1).mono ?_
  rintro _ w2 ⟨rfl, l3⟩
  unfold ckQ
  cases hS : shOk q with
  | false =>
    repeat' (first | (simp (disch := omega) only [push_cast, ↓reduceIte, zA, zG, zB, zH, zI, zC, zJ, zK, zL, zD, zE, zF, zM, zN, zO, zP, zQ, reduceCtorEq, not_true_eq_false, not_false_eq_true]) | (first | refine iE ?_ ?_ | refine iD ?_ ?_ | refine iQ ?_ ?_ | refine iV ?_ ?_) <;> intro _ | refine And.intro (by omega) ?_ | refine drawn_q ?_ | fail)
    first | exact ⟨(by simp), (l12.trans l3)⟩ | exact (l12.trans l3)
  | true =>
  have c2 := QQ w2 l3
  have f2 := FF w2 l3
  repeat' (first | (simp (disch := omega) only [push_cast, ↓reduceIte, zA, zG, zB, zH, zI, zC, zJ, zK, zL, zD, zE, zF, zM, zN, zO, zP, zQ, reduceCtorEq, not_true_eq_false, not_false_eq_true, c2, f2]) | (first | refine iE ?_ ?_ | refine iD ?_ ?_ | refine iQ ?_ ?_ | refine iV ?_ ?_) <;> intro _ | refine And.intro (by omega) ?_ | refine drawn_q ?_ | fail)
  refine (named_c dv mv d m q w2 (h1.later l3) (q1.later l3) hcn hbl htl hhl).mono ?_
  rintro _ w3 ⟨rfl, l4⟩
  cases hN : nsOk d m q with
  | false =>
    repeat' (first | (simp (disch := omega) only [push_cast, ↓reduceIte, zA, zG, zB, zH, zI, zC, zJ, zK, zL, zD, zE, zF, zM, zN, zO, zP, zQ, reduceCtorEq, not_true_eq_false, not_false_eq_true]) | (first | refine iE ?_ ?_ | refine iD ?_ ?_ | refine iQ ?_ ?_ | refine iV ?_ ?_) <;> intro _ | refine And.intro (by omega) ?_ | refine drawn_q ?_ | fail)
    first | exact ⟨(by simp), (l12.trans (l3.trans l4))⟩ | exact (l12.trans (l3.trans l4))
  | true =>
  have l34 := l3.trans l4
  have c3 := QQ w3 l34
  repeat' (first | (simp (disch := omega) only [push_cast, ↓reduceIte, zA, zG, zB, zH, zI, zC, zJ, zK, zL, zD, zE, zF, zM, zN, zO, zP, zQ, reduceCtorEq, not_true_eq_false, not_false_eq_true, c3]) | (first | refine iE ?_ ?_ | refine iD ?_ ?_ | refine iQ ?_ ?_ | refine iV ?_ ?_) <;> intro _ | refine And.intro (by omega) ?_ | refine drawn_q ?_ | fail)
  refine (typed_c q w3 (q1.later l34) hcn hbl hS).mono ?_
  rintro _ w4 ⟨rfl, l5⟩
  cases hT : tpOk q with
  | false =>
    repeat' (first | (simp (disch := omega) only [push_cast, ↓reduceIte, zA, zG, zB, zH, zI, zC, zJ, zK, zL, zD, zE, zF, zM, zN, zO, zP, zQ, reduceCtorEq, not_true_eq_false, not_false_eq_true]) | (first | refine iE ?_ ?_ | refine iD ?_ ?_ | refine iQ ?_ ?_ | refine iV ?_ ?_) <;> intro _ | refine And.intro (by omega) ?_ | refine drawn_q ?_ | fail)
    first | exact ⟨(by simp), (l12.trans (l34.trans l5))⟩ | exact (l12.trans (l34.trans l5))
  | true =>
    repeat' (first | (simp (disch := omega) only [push_cast, ↓reduceIte, zA, zG, zB, zH, zI, zC, zJ, zK, zL, zD, zE, zF, zM, zN, zO, zP, zQ, reduceCtorEq, not_true_eq_false, not_false_eq_true]) | (first | refine iE ?_ ?_ | refine iD ?_ ?_ | refine iQ ?_ ?_ | refine iV ?_ ?_) <;> intro _ | refine And.intro (by omega) ?_ | refine drawn_q ?_ | fail)
    first | exact ⟨(by simp), (l12.trans (l34.trans l5))⟩ | exact (l12.trans (l34.trans l5))
def bktN (q : QD) (t : Int) : Int := if q.ev = 0 then q.fr else (flrR t q.ev).1
theorem tbucket_c (q : QD) (t : Int) (w : World) (hq : q.Ok w) (ht : I6 t) : FnC Try.prog 62 #[.agg (qdC q).toArray, .int .i64 t] w fun v w' => v = .int .i64 (bktN q t) ∧ Later w w' := by
  refine enter62 _ _ ?_
  unfold B62
  have eca : (Value.agg (qdC q).toArray).cells = (qdC q).toArray := rfl
  have l1 := later_alloc w (.cells (qdC q).toArray 42)
  have B1 := Blk.new w (qdC q).toArray 42
  repeat' (first | (simp (disch := omega) only [push_cast, ↓reduceIte, zA, zG, zB, zH, zI, zC, zJ, zK, zL, zD, zE, zF, zM, zN, zO, zP, zQ, reduceCtorEq, not_true_eq_false, not_false_eq_true, eca]) | (first | refine iE ?_ ?_ | refine iD ?_ ?_ | refine iQ ?_ ?_ | refine iV ?_ ?_) <;> intro _ | refine And.intro (by omega) ?_ | refine drawn_q ?_ | fail)
  generalize w.alloc (.cells (qdC q).toArray 42) = w1 at *
  generalize w.heap.size = kf at *
  obtain ⟨_, a1, _, a3, _⟩ := qdAt B1
  unfold bktN
  by_cases hz : q.ev = 0
  · have dz : decide (q.ev = 0) = true := decide_eq_true hz
    rw [if_pos hz]
    repeat' (first | (simp (disch := omega) only [push_cast, ↓reduceIte, zA, zG, zB, zH, zI, zC, zJ, zK, zL, zD, zE, zF, zM, zN, zO, zP, zQ, reduceCtorEq, not_true_eq_false, not_false_eq_true, a1, a3, dz, addr_add_eq, Nat.zero_add]) | (first | refine iE ?_ ?_ | refine iD ?_ ?_ | refine iQ ?_ ?_ | refine iV ?_ ?_) <;> intro _ | refine And.intro (by omega) ?_ | refine drawn_q ?_ | fail)
    first | exact ⟨rfl, l1⟩ | exact l1
  · have dz : decide (q.ev = 0) = false := decide_eq_false hz
    rw [if_neg hz]
    repeat' (first | (simp (disch := omega) only [push_cast, ↓reduceIte, zA, zG, zB, zH, zI, zC, zJ, zK, zL, zD, zE, zF, zM, zN, zO, zP, zQ, reduceCtorEq, not_true_eq_false, not_false_eq_true, a1, a3, dz, addr_add_eq, Nat.zero_add]) | (first | refine iE ?_ ?_ | refine iD ?_ ?_ | refine iQ ?_ ?_ | refine iV ?_ ?_) <;> intro _ | refine And.intro (by omega) ?_ | refine drawn_q ?_ | fail)
    refine (bfloor_c t q.ev w1 ht hq.ev).mono ?_
    rintro _ w2 ⟨rfl, h2⟩; obtain rfl := h2.symm
    unfold tupF
    repeat' (first | (simp (disch := omega) only [push_cast, ↓reduceIte, zA, zG, zB, zH, zI, zC, zJ, zK, zL, zD, zE, zF, zM, zN, zO, zP, zQ, reduceCtorEq, not_true_eq_false, not_false_eq_true]) | (first | refine iE ?_ ?_ | refine iD ?_ ?_ | refine iQ ?_ ?_ | refine iV ?_ ?_) <;> intro _ | refine And.intro (by omega) ?_ | refine drawn_q ?_ | fail)
    first | exact ⟨rfl, l1⟩ | exact l1
end Go.Proofs.Ytnofalhkapmcnaa
end
section
set_option linter.unusedSimpArgs false
namespace Go.Proofs.Ytnofalhkapmcnaa
open Go.Vc Go.Key
set_option maxRecDepth 100000
end Go.Proofs.Ytnofalhkapmcnaa
end
section
set_option linter.unusedSimpArgs false
namespace Go.Proofs.Ytnofalhkapmcnaa
open Go.Vc Go.Key
set_option maxRecDepth 100000
def f17 (p : PD) : Bool := decide (p.tl.length ≤ 20) && decide (p.pl.length ≤ 20) && p.tl.all (fun c => decide (F10 c.dl)) && p.pl.all (fun c => decide (F10 c.dl))
end Go.Proofs.Ytnofalhkapmcnaa
end
section
set_option linter.unusedSimpArgs false
namespace Go.Proofs.Ytnofalhkapmcnaa
open Go.Vc Go.Key
set_option maxRecDepth 100000
def f20 (m : MD) : Bool := decide (F10 m.dl) && decide (F10 m.ml) && f17 m.p && decide (m.el.length ≤ 20) && decide (m.sl.length ≤ 20) && decide (m.fl.length ≤ 60) && decide (m.jn.size ≤ 60) && m.fl.all (fun s => decide (s.name.size ≤ 60))
end Go.Proofs.Ytnofalhkapmcnaa
end
section
set_option linter.unusedSimpArgs false
namespace Go.Cub
open Go.Key Go.Proofs.Ytnofalhkapmcnaa
/-- Where a text stands first. -/
def fi : List ByteArray → ByteArray → Option Nat
  | [], _ => none
  | y :: l, x => if y = x then some 0 else (fi l x).map (· + 1)
def sub (b : List ByteArray) : Nat → List ByteArray → Bool
  | _, [] => true
  | s, n :: a => match fi b n with
    | some k => if s ≤ k then sub b (k + 1) a else false
    | none => false
end Go.Cub
namespace Go.Proofs.Ytnofalhkapmcnaa
open Go.Vc Go.Key Go.Cub
set_option maxRecDepth 100000
end Go.Proofs.Ytnofalhkapmcnaa
end
section
set_option linter.unusedSimpArgs false
namespace Go.Proofs.Ytnofalhkapmcnaa
open Go.Vc Go.Key Go.Cub
set_option maxRecDepth 100000
end Go.Proofs.Ytnofalhkapmcnaa
end
section
set_option linter.unusedSimpArgs false
namespace Go.Proofs.Ytnofalhkapmcnaa
open Go.Vc Go.Key
set_option maxRecDepth 100000
end Go.Proofs.Ytnofalhkapmcnaa
end
section
set_option linter.unusedSimpArgs false
namespace Go.Proofs.Ytnofalhkapmcnaa
open Go.Vc Go.Key Go.Cub
set_option maxRecDepth 100000
end Go.Proofs.Ytnofalhkapmcnaa
end
section
set_option linter.unusedSimpArgs false
namespace Go.Vc
open Go.RowKit
/-- A plan. -/
structure PN where
  fr : Int
  to : Int
  tier : Int
  proj : Int
  rows : Int
deriving DecidableEq
def pnC (p : PN) : List Value := [.int .i64 p.fr, .int .i64 p.to, .int .i64 p.tier, .int .i64 p.proj, .int .i64 p.rows]
end Go.Vc
namespace Go.Proofs.Ytnofalhkapmcnaa
open Go.Vc Go.Key
set_option maxRecDepth 100000
@[push_cast] theorem bsl_pn {K : Value → World → Prop} {w : World} (x : PN) : vBuildSlice Try.prog 45 1 #[(0, .agg (pnC x).toArray)] K w = K (.slice (some ⟨w.heap.size, 0, none⟩) 1 1) (w.alloc (.cells (pnC x).toArray 49)) := bsl45_1_Codes7A _ _ _ _ _
end Go.Proofs.Ytnofalhkapmcnaa
end
section
set_option linter.unusedSimpArgs false
namespace Go.Proofs.Ytnofalhkapmcnaa
open Go.Vc Go.Key
set_option maxRecDepth 100000
end Go.Proofs.Ytnofalhkapmcnaa
end
section
set_option linter.unusedSimpArgs false
namespace Go.Vc
open Go.Op
section
variable {P : Program} {t : TypeId} {f0 f1 f2 f3 f4 : Field} (ht : P.underlying t = some (.struct #[f0, f1, f2, f3, f4])) (h0 : P.underlying f0.type = some (.int .i64)) (h1 : P.underlying f1.type = some (.int .i64)) (h2 : P.underlying f2.type = some (.int .i64)) (h3 : P.underlying f3.type = some (.int .i64)) (h4 : P.underlying f4.type = some (.int .i64))
    (o : (f0.offset, f1.offset, f2.offset, f3.offset, f4.offset) = (0, 1, 2, 3, 4)) (n0 : f0.name ≠ "_") (n1 : f1.name ≠ "_") (n2 : f2.name ≠ "_") (n3 : f3.name ≠ "_") (n4 : f4.name ≠ "_") (hp : P.stoodInHeld t = false) (hm : P.eqGuardType P.depth t = false)
include ht h0 h1 h2 h3 h4 o n0 n1 n2 n3 n4 hp hm
end
end Go.Vc
namespace Go.Proofs.Ytnofalhkapmcnaa
open Go.Vc Go.Key Go.Op
set_option maxRecDepth 100000
end Go.Proofs.Ytnofalhkapmcnaa
end
section
set_option linter.unusedSimpArgs false
namespace Go.Vc
open Go.Key
instance : Inhabited CD := ⟨⟨0, 0, .slice none 0 0, []⟩⟩
end Go.Vc
namespace Go.Proofs.Ytnofalhkapmcnaa
open Go.Vc Go.Key
set_option maxRecDepth 100000
end Go.Proofs.Ytnofalhkapmcnaa
end
section
set_option linter.unusedSimpArgs false
namespace Go.Vc
open Go.Key
end Go.Vc
namespace Go.Proofs.Ytnofalhkapmcnaa
open Go.Vc Go.Key Go.Bkt
set_option maxRecDepth 100000
end Go.Proofs.Ytnofalhkapmcnaa
end
section
set_option linter.unusedSimpArgs false
namespace Go.Vc
open Go
end Go.Vc
namespace Go.Proofs.Ytnofalhkapmcnaa
open Go.Vc Go.Key Go.Bkt
set_option maxRecDepth 100000
end Go.Proofs.Ytnofalhkapmcnaa
end
section
set_option linter.unusedSimpArgs false
namespace Go.Vc
open Go Go.RowKit
end Go.Vc
namespace Go.Proofs.Ytnofalhkapmcnaa
open Go.Vc Go.Key Go.Bkt
set_option maxRecDepth 100000
end Go.Proofs.Ytnofalhkapmcnaa
end
section
set_option linter.unusedSimpArgs false
namespace Go.Vc
open Go Go.RowKit
end Go.Vc
namespace Go.Proofs.Ytnofalhkapmcnaa
open Go.Vc Go.Key Go.Bkt
set_option maxRecDepth 100000
end Go.Proofs.Ytnofalhkapmcnaa
end
section
set_option linter.unusedSimpArgs false
namespace Go.Vc
open Go Go.RowKit
end Go.Vc
namespace Go.Proofs.Ytnofalhkapmcnaa
open Go.Vc Go.Key Go.Bkt
set_option maxRecDepth 100000
end Go.Proofs.Ytnofalhkapmcnaa
end
section
namespace Go.Vc
open Go
end Go.Vc
namespace Go.Proofs.Ytnofalhkapmcnaa
open Go.Vc Go.Key
end Go.Proofs.Ytnofalhkapmcnaa
end
section
set_option linter.unusedSimpArgs false
namespace Go.Vc
open Go Go.Key
end Go.Vc
namespace Go.Proofs.Ytnofalhkapmcnaa
open Go.Vc Go.Key Go.Cub
set_option maxRecDepth 100000
end Go.Proofs.Ytnofalhkapmcnaa
end
section
set_option linter.unusedSimpArgs false
namespace Go.Proofs.Ytnofalhkapmcnaa
open Go.Vc Go.Key Go.Cub
set_option maxRecDepth 100000
end Go.Proofs.Ytnofalhkapmcnaa
end
section
namespace Go.Proofs.Ytnofalhkapmcnaa
open Go.Vc
set_option maxRecDepth 100000
variable (Q : Post) (ds : List Deferred) (σ : Env) (w : World)
@[push_cast] theorem bsl35_1_Codes7L {K : Value → World → Prop} {w : World} (x00 x01 : Value) : vBuildSlice Try.prog 35 1 #[(0, (.agg #[x00, x01]))] K w = K (.slice (some ⟨w.heap.size, 0, none⟩) 1 1) (w.alloc (.cells #[x00, x01] 63)) :=
  vBuildSlice_ok Try.underlying35 ti63 (by kernel_rfl) (by decide)
@[push_cast] theorem bld42_0_1_3_Codes7L {K : Value → World → Prop} {w : World} (x0o : Option Addr) (x0n x0c : Nat) (x1 : Int) (x3 : Int) : vBuild Try.prog 42 #[(0, (.slice x0o x0n x0c)), (1, (.int .i64 x1)), (3, (.int .i64 x3))] K w = K (.agg #[(.slice x0o x0n x0c), (.int .i64 x1), (.int .i64 0), (.int .i64 x3), (.slice none 0 0), (.int .i64 0), (.string ⟨#[]⟩), (.string ⟨#[]⟩), (.slice none 0 0), (.slice none 0 0), (.int .i64 0), (.int .i64 0)]) w :=
  vBuild_ok (by kernel_rfl)
@[push_cast] theorem bld63__Codes7L {K : Value → World → Prop} {w : World}  : vBuild Try.prog 63 #[] K w = K (.agg #[(.int .i64 0), (.string ⟨#[]⟩)]) w :=
  vBuild_ok (by kernel_rfl)
end Go.Proofs.Ytnofalhkapmcnaa
end
section
set_option linter.unusedSimpArgs false
namespace Go.Proofs.Ytnofalhkapmcnaa
open Go.Vc Go.Key Go.Bkt
set_option maxRecDepth 100000
end Go.Proofs.Ytnofalhkapmcnaa
end
section
set_option linter.unusedSimpArgs false
namespace Go.Proofs.Ytnofalhkapmcnaa
open Go.Vc Go.Key Go.Bkt
set_option maxRecDepth 100000
theorem iq (n : Int) (h : -1000 ≤ n ∧ n ≤ 1000 := by decide) : I64 n := by unfold I64; omega
end Go.Proofs.Ytnofalhkapmcnaa
end
section
set_option linter.unusedSimpArgs false
namespace Go.Proofs.Ytnofalhkapmcnaa
open Go.Vc Go.Key Go.Bkt
set_option maxRecDepth 100000
def tQ (tv bv : Value) (bl : List ByteArray) : QD := ⟨tv, [⟨1, ⟨#[109]⟩⟩], 0, 50, 10, bv, bl, .mk 1 ⟨#[97]⟩ ⟨#[120]⟩ (.slice none 0 0) [], .slice none 0 0, [], 0, 0⟩
theorem tQ_ok {w : World} {tv bv : Value} {bl : List ByteArray} (ht : RecS tdC 2 w tv [⟨1, ⟨#[109]⟩⟩]) (hb : StS w bv bl) (hz : ∀ s ∈ bl, s.size ≤ Bz) : (tQ tv bv bl).Ok w := by
  refine ⟨ht, ?_, iq 0, iq 50, iq 10, hb, hz, FT.ok_iff.2 ⟨iq 1, (show (⟨#[97]⟩ : ByteArray).size ≤ 140737488351232 by decide), (show (⟨#[120]⟩ : ByteArray).size ≤ 140737488351232 by decide), RecS.nil w, by simp [FT.kids, tQ]⟩, RecS.nil w, by simp [tQ], iq 0, iq 0⟩
  intro t ht
  rw [List.mem_singleton.1 ht]
  exact ⟨iq 1, by decide⟩
theorem tlive1 (tv bv : Value) : ckQ [⟨#[97]⟩, ⟨#[98]⟩, ⟨#[99]⟩] [⟨#[109]⟩] (tQ tv bv [⟨#[99]⟩]) = 0 := by kernel_rfl
theorem tlive2 (tv bv : Value) : ckQ [⟨#[97]⟩, ⟨#[98]⟩, ⟨#[99]⟩] [⟨#[109]⟩] (tQ tv bv [⟨#[100]⟩]) = 231 := by kernel_rfl
theorem tlive3 (tv bv : Value) : usedL [⟨#[97]⟩, ⟨#[98]⟩, ⟨#[99]⟩] (tQ tv bv [⟨#[99]⟩]) = [⟨#[97]⟩, ⟨#[99]⟩] := by kernel_rfl
theorem tlive4 (tv bv : Value) : bktN (tQ tv bv [⟨#[99]⟩]) 37 = 30 := by kernel_rfl
abbrev dABC : List ByteArray := [⟨#[97]⟩, ⟨#[98]⟩, ⟨#[99]⟩]
abbrev mM : List ByteArray := [⟨#[109]⟩]
set_option maxHeartbeats 2000000 in
theorem alive23_c (w : World) : FnC Try.prog 29 #[] w fun v w' => v = .bool true ∧ Later w w' := by
  refine enter29 ?_
  unfold B29
  have la := later_alloc w (.cells #[.string ⟨#[97]⟩, .string ⟨#[98]⟩, .string ⟨#[99]⟩] 9)
  have Sa : StS (w.alloc (.cells #[.string ⟨#[97]⟩, .string ⟨#[98]⟩, .string ⟨#[99]⟩] 9)) (.slice (some ⟨w.heap.size, 0, none⟩) 3 3) dABC := Sl.lit w [.string ⟨#[97]⟩, .string ⟨#[98]⟩, .string ⟨#[99]⟩] 9 (by unfold maxLen; simp)
  generalize hwa : w.alloc (.cells #[.string ⟨#[97]⟩, .string ⟨#[98]⟩, .string ⟨#[99]⟩] 9) = wa at *
  have lb := later_alloc wa (.cells #[.string ⟨#[109]⟩] 9)
  have Sb : StS (wa.alloc (.cells #[.string ⟨#[109]⟩] 9)) (.slice (some ⟨wa.heap.size, 0, none⟩) 1 1) mM := Sl.lit wa [.string ⟨#[109]⟩] 9 (by unfold maxLen; simp)
  generalize hwb : wa.alloc (.cells #[.string ⟨#[109]⟩] 9) = wb at *
  repeat' (first | (simp (disch := omega) only [push_cast, ↓reduceIte, zA, zG, zB, zH, zI, zC, zJ, zK, zL, zD, zE, zF, zM, zN, zO, zP, zQ, reduceCtorEq, not_true_eq_false, not_false_eq_true, hwa, hwb]) | (first | refine iE ?_ ?_ | refine iD ?_ ?_ | refine iQ ?_ ?_ | refine iV ?_ ?_) <;> intro _ | refine And.intro (by omega) ?_ | fail)
  generalize hdv : Value.slice (some ⟨w.heap.size, 0, none⟩) 3 3 = dv at *
  generalize hmv : Value.slice (some ⟨wa.heap.size, 0, none⟩) 1 1 = mv at *
  refine vStore_new rfl rfl (by intro u hu; subst hdv; subst hmv; simp at hu; rcases hu with rfl | rfl <;> rfl) ?_
  have lc := later_alloc wb (.cells #[dv, mv] 24)
  have Bc := Blk.new wb #[dv, mv] 24
  generalize wb.alloc (.cells #[dv, mv] 24) = wc at *
  generalize wb.heap.size = kc at *
  have hS : ScIs wc dv mv dABC mM := ⟨Sl.later Sa (lb.trans lc), Sl.later Sb lc, by unfold StZ; decide, by unfold StZ; decide⟩
  have l0c := la.trans (lb.trans lc)
  clear hwa hwb Sa Sb
  have ld := later_alloc wc (.cells #[.int .i64 1, .string ⟨#[109]⟩] 63)
  have Sd : RecS tdC 2 (wc.alloc (.cells #[.int .i64 1, .string ⟨#[109]⟩] 63)) (.slice (some ⟨wc.heap.size, 0, none⟩) 1 1) [⟨1, ⟨#[109]⟩⟩] := SlN.lit wc [.int .i64 1, .string ⟨#[109]⟩] _ 2 1 rfl (by unfold maxLen; omega)
  generalize hwd : wc.alloc (.cells #[.int .i64 1, .string ⟨#[109]⟩] 63) = wd at *
  have le := later_alloc wd (.cells #[.string ⟨#[99]⟩] 9)
  have Se : StS (wd.alloc (.cells #[.string ⟨#[99]⟩] 9)) (.slice (some ⟨wd.heap.size, 0, none⟩) 1 1) [⟨#[99]⟩] := Sl.lit wd [.string ⟨#[99]⟩] 9 (by unfold maxLen; simp)
  generalize hwe : wd.alloc (.cells #[.string ⟨#[99]⟩] 9) = we at *
  repeat' (first | (simp (disch := omega) only [push_cast, ↓reduceIte, zA, zG, zB, zH, zI, zC, zJ, zK, zL, zD, zE, zF, zM, zN, zO, zP, zQ, reduceCtorEq, not_true_eq_false, not_false_eq_true, hwd, hwe]) | (first | refine iE ?_ ?_ | refine iD ?_ ?_ | refine iQ ?_ ?_ | refine iV ?_ ?_) <;> intro _ | refine And.intro (by omega) ?_ | fail)
  generalize htv : Value.slice (some ⟨wc.heap.size, 0, none⟩) 1 1 = tv at *
  generalize hbv : Value.slice (some ⟨wd.heap.size, 0, none⟩) 1 1 = bv at *
  refine vStore_new rfl rfl (by intro u hu; subst htv; subst hbv; simp at hu; rcases hu with rfl | rfl | rfl | rfl | rfl | rfl | rfl | rfl | rfl | rfl | rfl | rfl <;> rfl) ?_
  have lf := later_alloc we (.cells (qdC (tQ tv bv [⟨#[99]⟩])).toArray 42)
  have Bf := Blk.new we (qdC (tQ tv bv [⟨#[99]⟩])).toArray 42
  have eq1 : (qdC (tQ tv bv [⟨#[99]⟩])).toArray = #[tv, .int .i64 0, .int .i64 50, .int .i64 10, bv, .int .i64 1, .string ⟨#[97]⟩, .string ⟨#[120]⟩, .slice none 0 0, .slice none 0 0, .int .i64 0, .int .i64 0] := rfl
  have hq1 : (tQ tv bv [⟨#[99]⟩]).Ok we := tQ_ok (Sd.later le) Se (by intro s hs; rw [List.mem_singleton.1 hs]; decide)
  rw [← eq1]
  generalize we.alloc (.cells (qdC (tQ tv bv [⟨#[99]⟩])).toArray 42) = wf at *
  generalize we.heap.size = kf at *
  have ff : cellsAt wf ⟨kf, 0, none⟩ 12 = some (qdC (tQ tv bv [⟨#[99]⟩])) := Blk.cellsAt (l := qdC (tQ tv bv [⟨#[99]⟩])) Bf
  repeat' (first | (simp (disch := omega) only [push_cast, ↓reduceIte, zA, zG, zB, zH, zI, zC, zJ, zK, zL, zD, zE, zF, zM, zN, zO, zP, zQ, reduceCtorEq, not_true_eq_false, not_false_eq_true, ff]) | (first | refine iE ?_ ?_ | refine iD ?_ ?_ | refine iQ ?_ ?_ | refine iV ?_ ?_) <;> intro _ | refine And.intro (by omega) ?_ | fail)
  refine vStore_new rfl rfl (by intro u hu; subst htv; subst hbv; rw [eq1] at hu; simp at hu; rcases hu with rfl | rfl | rfl | rfl | rfl | rfl | rfl | rfl | rfl | rfl | rfl | rfl <;> rfl) ?_
  have lg := later_alloc wf (.cells (qdC (tQ tv bv [⟨#[99]⟩])).toArray 42)
  have Bg := Blk.new wf (qdC (tQ tv bv [⟨#[99]⟩])).toArray 42
  generalize wf.alloc (.cells (qdC (tQ tv bv [⟨#[99]⟩])).toArray 42) = wg at *
  have zf : wf.heap.size = wf.heap.size := rfl
  generalize hkg : wf.heap.size = kg at *
  have lh := later_alloc wg (.cells #[.string ⟨#[100]⟩] 9)
  have Sh : StS (wg.alloc (.cells #[.string ⟨#[100]⟩] 9)) (.slice (some ⟨wg.heap.size, 0, none⟩) 1 1) [⟨#[100]⟩] := Sl.lit wg [.string ⟨#[100]⟩] 9 (by unfold maxLen; simp)
  have Bh := Bg.chg (Chg.of_later (ks := []) lh) (by simp)
  have zg := Bg.lt
  generalize hwh : wg.alloc (.cells #[.string ⟨#[100]⟩] 9) = wh at *
  have g4 : wh.cell? ⟨kg, 4, none⟩ = some bv := Bh.cell 4
  have fz := Bh.frozen 4
  have Bi := Bh.set 4 (.slice (some ⟨wg.heap.size, 0, none⟩) 1 1)
  have ch : Chg wh (wh.setCell ⟨kg, 4, none⟩ (.slice (some ⟨wg.heap.size, 0, none⟩) 1 1)) [kg] := chg_setCell wh (by simp) _
  have Bi : Blk (wh.setCell ⟨kg, 4, none⟩ (.slice (some ⟨wg.heap.size, 0, none⟩) 1 1)) kg (qdC (tQ tv (.slice (some ⟨wg.heap.size, 0, none⟩) 1 1) [⟨#[100]⟩])).toArray 42 := Bi
  repeat' (first | (simp (disch := omega) only [push_cast, ↓reduceIte, zA, zG, zB, zH, zI, zC, zJ, zK, zL, zD, zE, zF, zM, zN, zO, zP, zQ, reduceCtorEq, not_true_eq_false, not_false_eq_true, hwh, g4, fz, addr_add_eq, Nat.zero_add]) | (first | refine iE ?_ ?_ | refine iD ?_ ?_ | refine iQ ?_ ?_ | refine iV ?_ ?_) <;> intro _ | refine And.intro (by omega) ?_ | fail)
  have hne : wg.heap.size ≠ kg := by omega
  have Si : StS (wh.setCell ⟨kg, 4, none⟩ (.slice (some ⟨wg.heap.size, 0, none⟩) 1 1)) (.slice (some ⟨wg.heap.size, 0, none⟩) 1 1) [⟨#[100]⟩] := Sl.chg Sh ch (by simpa using hne) (by simp [inB])
  generalize hb2 : Value.slice (some ⟨wg.heap.size, 0, none⟩) 1 1 = b2 at *
  generalize wh.setCell ⟨kg, 4, none⟩ b2 = wi at *
  have lfi : Later wf wi := Chg.later (lg.trans lh) ch (by intro j hj; rw [List.mem_singleton.1 hj, hkg]; exact Nat.le_refl _)
  have lci : Later wc wi := ld.trans (le.trans (lf.trans lfi))
  have hq2 : (tQ tv b2 [⟨#[100]⟩]).Ok wi := tQ_ok (Sd.later (le.trans (lf.trans lfi))) Si (by intro s hs; rw [List.mem_singleton.1 hs]; decide)
  have hq1i := hq1.later (lf.trans lfi)
  have SS : ∀ w', Later wc w' → cellsAt w' ⟨kc, 0, none⟩ 2 = some [dv, mv] := fun w' hl => Blk.cellsAt (l := [dv, mv]) (Bc.chg (Chg.of_later (ks := []) hl) (by simp))
  have fi := cellsAt_later lfi 12 ff
  have gi : cellsAt wi ⟨kg, 0, none⟩ 12 = some (qdC (tQ tv b2 [⟨#[100]⟩])) := Blk.cellsAt (l := qdC (tQ tv b2 [⟨#[100]⟩])) Bi
  have si := SS wi lci
  have hcn : ∀ v l, l.length ≤ 1000 → (tQ tv v l).wh.cnt ≤ 1000000 ∧ (tQ tv v l).bl.length ≤ 1000 ∧ (tQ tv v l).tl.length ≤ 1000 ∧ (tQ tv v l).hl.length ≤ 1000 := fun v l hl => ⟨(show (1 : Nat) ≤ 1000000 by decide), hl, (show (1 : Nat) ≤ 1000 by decide), (show (0 : Nat) ≤ 1000 by decide)⟩
  obtain ⟨n1, n2, n3, n4⟩ := hcn bv [⟨#[99]⟩] (by simp)
  repeat' (first | (simp (disch := omega) only [push_cast, ↓reduceIte, zA, zG, zB, zH, zI, zC, zJ, zK, zL, zD, zE, zF, zM, zN, zO, zP, zQ, reduceCtorEq, not_true_eq_false, not_false_eq_true, si, fi]) | (first | refine iE ?_ ?_ | refine iD ?_ ?_ | refine iQ ?_ ?_ | refine iV ?_ ?_) <;> intro _ | refine And.intro (by omega) ?_ | fail)
  refine (tcheck_c dv mv dABC mM _ wi (hS.later lci) hq1i n1 n2 n3 n4).mono ?_
  rintro _ wj ⟨rfl, lj⟩
  rw [tlive1]
  have gj := cellsAt_later lj 12 gi
  have sj := SS wj (lci.trans lj)
  obtain ⟨m1, m2, m3, m4⟩ := hcn b2 [⟨#[100]⟩] (by simp)
  repeat' (first | (simp (disch := omega) only [push_cast, ↓reduceIte, zA, zG, zB, zH, zI, zC, zJ, zK, zL, zD, zE, zF, zM, zN, zO, zP, zQ, reduceCtorEq, not_true_eq_false, not_false_eq_true, sj, gj, decide_true]) | (first | refine iE ?_ ?_ | refine iD ?_ ?_ | refine iQ ?_ ?_ | refine iV ?_ ?_) <;> intro _ | refine And.intro (by omega) ?_ | fail)
  refine (tcheck_c dv mv dABC mM _ wj (hS.later (lci.trans lj)) (hq2.later lj) m1 m2 m3 m4).mono ?_
  rintro _ wk ⟨rfl, lk⟩
  rw [tlive2]
  have lik := lj.trans lk
  have fk := cellsAt_later lik 12 fi
  have sk := SS wk (lci.trans lik)
  repeat' (first | (simp (disch := omega) only [push_cast, ↓reduceIte, zA, zG, zB, zH, zI, zC, zJ, zK, zL, zD, zE, zF, zM, zN, zO, zP, zQ, reduceCtorEq, not_true_eq_false, not_false_eq_true, sk, fk, decide_true]) | (first | refine iE ?_ ?_ | refine iD ?_ ?_ | refine iQ ?_ ?_ | refine iV ?_ ?_) <;> intro _ | refine And.intro (by omega) ?_ | fail)
  refine (tused_c dv mv dABC mM _ wk (hS.later (lci.trans lik)) (hq1i.later lik) n1 n2 (by simp)).mono ?_
  rintro uv wl ⟨hu, ll⟩
  rw [tlive3] at hu
  obtain ⟨uo, uc, huv⟩ := Sl.slice hu
  rw [huv] at hu ⊢
  have lo := later_alloc wl (.cells #[.string ⟨#[97]⟩, .string ⟨#[99]⟩] 9)
  have So : StS (wl.alloc (.cells #[.string ⟨#[97]⟩, .string ⟨#[99]⟩] 9)) (.slice (some ⟨wl.heap.size, 0, none⟩) 2 2) [⟨#[97]⟩, ⟨#[99]⟩] := Sl.lit wl [.string ⟨#[97]⟩, .string ⟨#[99]⟩] 9 (by unfold maxLen; simp)
  generalize hwo : wl.alloc (.cells #[.string ⟨#[97]⟩, .string ⟨#[99]⟩] 9) = wo at *
  repeat' (first | (simp (disch := omega) only [push_cast, ↓reduceIte, zA, zG, zB, zH, zI, zC, zJ, zK, zL, zD, zE, zF, zM, zN, zO, zP, zQ, reduceCtorEq, not_true_eq_false, not_false_eq_true, hwo]) | (first | refine iE ?_ ?_ | refine iD ?_ ?_ | refine iQ ?_ ?_ | refine iV ?_ ?_) <;> intro _ | refine And.intro (by omega) ?_ | fail)
  refine (texts_c _ _ _ _ wo (Sl.later hu lo) So).mono ?_
  rintro _ wp ⟨rfl, lp⟩
  have lip := lik.trans (ll.trans (lo.trans lp))
  have fp := cellsAt_later lip 12 fi
  repeat' (first | (simp (disch := omega) only [push_cast, ↓reduceIte, zA, zG, zB, zH, zI, zC, zJ, zK, zL, zD, zE, zF, zM, zN, zO, zP, zQ, reduceCtorEq, not_true_eq_false, not_false_eq_true, fp, decide_true]) | (first | refine iE ?_ ?_ | refine iD ?_ ?_ | refine iQ ?_ ?_ | refine iV ?_ ?_) <;> intro _ | refine And.intro (by omega) ?_ | fail)
  refine (tbucket_c (tQ tv bv [⟨#[99]⟩]) 37 wp (hq1i.later lip) (by omega)).mono ?_
  rintro _ wq ⟨rfl, lq⟩
  rw [tlive4]
  repeat' (first | (simp (disch := omega) only [push_cast, ↓reduceIte, zA, zG, zB, zH, zI, zC, zJ, zK, zL, zD, zE, zF, zM, zN, zO, zP, zQ, reduceCtorEq, not_true_eq_false, not_false_eq_true, decide_true]) | (first | refine iE ?_ ?_ | refine iD ?_ ?_ | refine iQ ?_ ?_ | refine iV ?_ ?_) <;> intro _ | refine And.intro (by omega) ?_ | refine drawn_q ?_ | fail)
  first | exact ⟨rfl, (l0c.trans (lci.trans (lip.trans lq)))⟩ | exact (l0c.trans (lci.trans (lip.trans lq)))
end Go.Proofs.Ytnofalhkapmcnaa
end
section
namespace Go.Proofs.Ytnofalhkapmcnaa
open Go.Vc Go.Key
theorem ck0 {d m : List ByteArray} {q : QD} (h : ckQ d m q = 0) : shOk q = true ∧ nsOk d m q = true ∧ tpOk q = true := by
  unfold ckQ at h
  cases h1 : shOk q with
  | false => rw [h1] at h; simp at h
  | true =>
    cases h2 : nsOk d m q with
    | false => rw [h1, h2] at h; simp at h
    | true =>
      cases h3 : tpOk q with
      | false => rw [h1, h2, h3] at h; simp at h
      | true => exact ⟨rfl, rfl, rfl⟩
theorem ck_of {d m : List ByteArray} {q : QD} (h1 : shOk q = true) (h3 : tpOk q = true) : ckQ d m q = if nsOk d m q = true then 0 else 231 := by
  unfold ckQ
  rw [h1, h3]
  cases nsOk d m q <;> rfl
theorem ns_is (d m : List ByteArray) (q : QD) : nsOk d m q = true ↔ (∀ s ∈ q.bl ++ q.wh.dims, s ∈ d) ∧ q.tl.all (mtOk m) = true ∧ q.hl.all (fun h => mtOk m h.t) = true := by
  unfold nsOk
  rw [Bool.and_eq_true, Bool.and_eq_true, List.all_eq_true, and_assoc]
  simp only [inL_iff]
structure Ft23 (d m : List ByteArray) (q : QD) : Prop where
  sc : ScOk d m
  tl : q.tl.length ≤ 30
  hl : q.hl.length ≤ 30
  bl : q.bl.length ≤ 20
  cnt : q.wh.cnt ≤ 300
  deep : q.wh.deep ≤ 60
theorem f23_ft {d m : List ByteArray} {q : QD} (h : f23 d m q = true) : Ft23 d m q := by
  unfold f23 at h
  simp only [Bool.and_eq_true, decide_eq_true_eq] at h
  obtain ⟨⟨⟨⟨⟨⟨⟨_, _⟩, hb⟩, ht⟩, hh⟩, hp⟩, hs⟩, hd⟩ := h
  have := FT.cnt_prt q.wh 300 hp
  exact ⟨hs, ht, hh, hb.1, by omega, hd⟩
theorem ScIs.of_ok {w : World} {dv mv : Value} {d m : List ByteArray} (h : StS w dv d ∧ (∀ s ∈ d, s.size ≤ Bz) ∧ StS w mv m ∧ ∀ s ∈ m, s.size ≤ Bz) : ScIs w dv mv d m :=
  ⟨h.1, h.2.2.1, fun s hs => Nat.le_trans (h.2.1 s hs) (by unfold Bz; omega), fun s hs => Nat.le_trans (h.2.2.2 s hs) (by unfold Bz; omega)⟩
end Go.Proofs.Ytnofalhkapmcnaa
end
section
namespace Go.Proofs.Ytnofalhkapmcnaa
open Go.Vc Go.Key
theorem FT.deep_kid {f k : FT} (h : k ∈ f.kids) : k.deep + 1 ≤ f.deep := by
  obtain ⟨op, d, v, kv, l⟩ := f
  have h : k ∈ l := h
  show k.deep + 1 ≤ FT.deepL l + 1
  have : ∀ l : List FT, k ∈ l → k.deep ≤ FT.deepL l := by
    intro l
    induction l with
    | nil => intro h; cases h
    | cons a l ih =>
      intro h
      show k.deep ≤ max a.deep (FT.deepL l)
      rcases List.mem_cons.1 h with rfl | h
      · omega
      · have := ih h; omega
  have := this l h
  omega
theorem form_deep : ∀ (f : FT) (n k : Nat), f.form n = true → f.deep ≤ k → f.form k = true := by
  intro f
  induction f using FT.ind with
  | h f ih =>
  intro n k hf hd
  rw [FT.form_is] at hf ⊢
  simp only [Bool.and_eq_true] at hf ⊢
  obtain ⟨⟨h1, h2⟩, h3⟩ := hf
  have hdp : 1 ≤ f.deep := by rw [FT.deep_is]; omega
  refine ⟨⟨by simp; omega, ?_⟩, h3⟩
  rw [List.all_eq_true] at h2 ⊢
  intro x hx
  have := FT.deep_kid hx
  exact ih x hx (n - 1) (k - 1) (h2 x hx) (by omega)
def nq (q : QD) (f : FT) : QD := { q with wh := f }
def notF (kv : Value) (f : FT) : FT := .mk 3 ⟨#[]⟩ ⟨#[]⟩ kv [f]
def orF (kv : Value) (f g : FT) : FT := .mk 5 ⟨#[]⟩ ⟨#[]⟩ kv [f, g]
def andF (kv : Value) (f : FT) : FT := .mk 4 ⟨#[]⟩ ⟨#[]⟩ kv [f]
theorem form_not {kv : Value} {f : FT} {n : Nat} (h : f.form n = true) : (notF kv f).form (n + 1) = true := by
  rw [FT.form_is, own_is]
  show (!(n + 1 == 0) && [f].all (fun k => k.form (n + 1 - 1)) && _) = true
  rw [List.all_cons, List.all_nil, Nat.add_sub_cancel, h]
  rfl
theorem form_or {kv : Value} {f g : FT} {n : Nat} (h : f.form n = true) (h2 : g.form n = true) : (orF kv f g).form (n + 1) = true := by
  rw [FT.form_is, own_is]
  show (!(n + 1 == 0) && [f, g].all (fun k => k.form (n + 1 - 1)) && _) = true
  rw [List.all_cons, List.all_cons, List.all_nil, Nat.add_sub_cancel, h, h2]
  rfl
theorem form_and {kv : Value} {f : FT} {n : Nat} : (andF kv f).form n = false := by
  rw [FT.form_is, own_is]
  show (_ && _ && false) = false
  rw [Bool.and_false]
theorem dims_not (kv : Value) (f : FT) : (notF kv f).dims = f.dims := by
  rw [FT.dims_is]; show [] ++ [f].flatMap FT.dims = f.dims; simp
theorem dims_or (kv : Value) (f g : FT) : (orF kv f g).dims = f.dims ++ g.dims := by
  rw [FT.dims_is]; show [] ++ [f, g].flatMap FT.dims = f.dims ++ g.dims; simp
theorem vals_not (kv : Value) (f : FT) : (notF kv f).vals = ⟨#[]⟩ :: f.vals := by
  rw [FT.vals_is]; show _ :: [f].flatMap FT.vals = _; simp; rfl
theorem vals_or (kv : Value) (f g : FT) : (orF kv f g).vals = ⟨#[]⟩ :: (f.vals ++ g.vals) := by
  rw [FT.vals_is]; show _ :: [f, g].flatMap FT.vals = _; simp; rfl
theorem ck_nq {d m : List ByteArray} {q : QD} {f : FT} (h : ckQ d m q = 0) (hw : whOk f = true) (hd : ∀ s ∈ f.dims, s ∈ q.wh.dims) (hv : f.vals.all (fun s => decide (VlOk s)) = true) : ckQ d m (nq q f) = 0 := by
  obtain ⟨h1, h2, h3⟩ := ck0 h
  have e1 : shOk (nq q f) = true := by
    show (szOk q && q.tl.all tmOk && q.hl.all hvOk && whOk f) = true
    unfold shOk at h1
    simp only [Bool.and_eq_true] at h1
    rw [h1.1.1.1, h1.1.1.2, h1.1.2, hw]; rfl
  have e3 : tpOk (nq q f) = true := by
    show (decide (q.bl.Pairwise (fun x y => x ≠ y)) && f.vals.all (fun s => decide (VlOk s)) && evOk q && decide (tyNum q)) = true
    unfold tpOk at h3
    simp only [Bool.and_eq_true] at h3
    rw [h3.1.1.1, hv, h3.1.2, h3.2]; rfl
  have e2 : nsOk d m (nq q f) = true := by
    rw [ns_is] at h2 ⊢
    refine ⟨fun s hs => ?_, h2.2⟩
    have hs : s ∈ q.bl ++ f.dims := hs
    rcases List.mem_append.1 hs with hs | hs
    · exact h2.1 s (List.mem_append_left _ hs)
    · exact h2.1 s (List.mem_append_right _ (hd s hs))
  rw [ck_of e1 e3, if_pos e2]
theorem used_nq {d : List ByteArray} {q : QD} {f : FT} (hd : ∀ s, s ∈ f.dims ↔ s ∈ q.wh.dims) : usedL d (nq q f) = usedL d q := by
  unfold usedL
  refine List.filter_congr fun s _ => ?_
  show inL s (q.bl ++ f.dims) = inL s (q.bl ++ q.wh.dims)
  rw [Bool.eq_iff_iff, inL_iff, inL_iff, List.mem_append, List.mem_append, hd]
theorem used_nil {d : List ByteArray} {q : QD} : (usedL d (nq q zeroF)).length ≤ (usedL d q).length := by
  unfold usedL
  rw [← List.countP_eq_length_filter, ← List.countP_eq_length_filter]
  refine List.countP_mono_left fun s _ h => ?_
  have h : inL s (q.bl ++ []) = true := h
  rw [inL_iff] at h ⊢
  rw [List.append_nil] at h
  exact List.mem_append_left _ h
/-- What is known of a typed query with a filter at most 28 deep. -/
theorem filt_all {d m : List ByteArray} {q : QD} (h : ckQ d m q = 0) (ho : q.wh.op ≠ 0) (hd : q.wh.deep ≤ 28) (k1 k2 k3 k4 : Value) :
    ckQ d m (nq q (notF k1 q.wh)) = 0 ∧ ckQ d m (nq q (orF k2 q.wh (notF k3 q.wh))) = 0 ∧ ckQ d m (nq q (andF k4 q.wh)) = 221 ∧ ckQ d m (nq q zeroF) = 0 ∧
    usedL d (nq q (notF k1 q.wh)) = usedL d q ∧ usedL d (nq q (orF k2 q.wh (notF k3 q.wh))) = usedL d q ∧ (usedL d (nq q zeroF)).length ≤ (usedL d q).length := by
  obtain ⟨h1, h2, h3⟩ := ck0 h
  have hf : q.wh.form 30 = true := by
    unfold shOk at h1
    simp only [Bool.and_eq_true] at h1
    have := h1.2
    unfold whOk at this
    rwa [if_neg ho] at this
  have hv : q.wh.vals.all (fun s => decide (VlOk s)) = true := by
    unfold tpOk at h3
    simp only [Bool.and_eq_true] at h3
    exact h3.1.1.2
  have hv0 : decide (VlOk ⟨#[]⟩) = true := by decide
  have f28 := form_deep q.wh 30 28 hf hd
  have f29 := form_deep q.wh 30 29 hf (by omega)
  have w1 : whOk (notF k1 q.wh) = true := form_not (kv := k1) f29
  have w2 : whOk (orF k2 q.wh (notF k3 q.wh)) = true := form_or (kv := k2) f29 (form_not (kv := k3) f28)
  have w4 : whOk zeroF = true := rfl
  have w3 : whOk (andF k4 q.wh) = false := form_and (kv := k4) (f := q.wh) (n := 30)
  refine ⟨ck_nq h w1 (by rw [dims_not]; exact fun s hs => hs) (by rw [vals_not, List.all_cons, hv0, hv]; rfl), ck_nq h w2 (by rw [dims_or, dims_not]; exact fun s hs => by rcases List.mem_append.1 hs with hs | hs <;> exact hs) (by rw [vals_or, vals_not, List.all_cons, List.all_append, List.all_cons, hv0, hv]; rfl), ?_, ck_nq h w4 (fun s hs => by cases hs) (by show (decide (VlOk ⟨#[]⟩) && true) = true; rw [hv0]; rfl), used_nq (by rw [dims_not]; exact fun s => Iff.rfl), used_nq (by rw [dims_or, dims_not]; exact fun s => by rw [List.mem_append, or_self]), used_nil⟩
  have : shOk (nq q (andF k4 q.wh)) = false := by
    show (_ && whOk (andF k4 q.wh)) = false
    rw [w3, Bool.and_false]
  unfold ckQ
  rw [if_pos this]
theorem store_wh {w : World} {k : Nat} {q : QD} {f : FT} {K : Value → World → Prop} (B : Blk w k (qdC q).toArray 42) (h1 : ∀ u ∈ ftC f, u.oneCell' = true)
    (hK : ∀ w', Blk w' k (qdC (nq q f)).toArray 42 → Chg w w' [k] → K undef w') : vStoreD Try.prog 39 (some 4) (.pointer (some ⟨k, 5, none⟩)) (.agg (ftC f).toArray) K w := by
  obtain ⟨c, b, g⟩ := storeAll_blk (ftC f) 5 w (qdC q) B (by show 5 + 4 ≤ 12; omega)
  exact ⟨rfl, h1, c, hK _ b g⟩
end Go.Proofs.Ytnofalhkapmcnaa
end
section
namespace Go.Proofs.Ytnofalhkapmcnaa
open Go.Vc
set_option maxRecDepth 100000
variable (Q : Post) (ds : List Deferred) (σ : Env) (w : World)
/-! 9 columbary/columbarylaw23.TyperFilter (params #[24, 42], results #[(.tmp 4)], 109 slots) -/
def r9_0 : List VOp :=
  [⟨some 2, .box 24 (.tmp 0), 0, none⟩,
   ⟨some 3, .box 42 (.tmp 1), 0, none⟩,
   ⟨some 4, .assign (.const (.bool false)), 4, none⟩]
def r9_1 : List VOp :=
  [lda 11 24 2,
   lda 12 42 3,
   ⟨some 13, .call ⟨.value (.func 27), #[.tmp 11, .tmp 12], #[24, 42]⟩, 4, none⟩,
   asg 5 13 4]
def r9_2 : List VOp :=
  [mv 14 5 4,
   ⟨some 15, .unOp .not 4 (.tmp 14), 4, none⟩,
   mv 16 15 4,
   ⟨some 17, .load 24 (.tmp 2), 24, some (16, false)⟩,
   ⟨some 18, .load 42 (.tmp 3), 42, some (16, false)⟩,
   ⟨some 19, .call ⟨.value (.func 28), #[.tmp 17, .tmp 18], #[24, 42]⟩, 53, some (16, false)⟩,
   ⟨some 20, .binOp .neq 53 (.tmp 19) (.const (.int .i64 0)) 53, 4, some (16, false)⟩,
   ⟨some 21, .pick (.tmp 16) (.const (.bool true)) (.tmp 20), 4, none⟩,
   mv 22 21 4,
   ⟨some 23, .fieldAddr 42 (.tmp 3) 5, 0, some (22, false)⟩,
   ⟨some 24, .fieldAddr 39 (.tmp 23) 0, 0, some (22, false)⟩,
   ⟨some 25, .load 36 (.tmp 24), 36, some (22, false)⟩,
   ⟨some 26, .binOp .eql 36 (.tmp 25) (.const (.int .i64 0)) 36, 4, some (22, false)⟩,
   ⟨some 27, .pick (.tmp 22) (.const (.bool true)) (.tmp 26), 4, none⟩,
   mv 28 27 4,
   ⟨some 29, .fieldAddr 42 (.tmp 3) 5, 0, some (28, false)⟩,
   ⟨some 30, .load 39 (.tmp 29), 39, some (28, false)⟩,
   ⟨some 31, .call ⟨.value (.func 31), #[.tmp 30], #[39]⟩, 3, some (28, false)⟩,
   ⟨some 32, .binOp .gtr 3 (.tmp 31) (.const (.int .i64 28)) 3, 4, some (28, false)⟩,
   ⟨some 33, .pick (.tmp 28) (.const (.bool true)) (.tmp 32), 4, none⟩]
def r9_3 : List VOp :=
  [⟨some 34, .call ⟨.value (.func 29), #[], #[]⟩, 4, none⟩,
   asg 4 34 4]
def r9_4 : List VOp :=
  [lda 35 24 2,
   lda 36 42 3,
   ⟨some 37, .call ⟨.value (.func 30), #[.tmp 35, .tmp 36], #[24, 42]⟩, 22, none⟩,
   asg 6 37 22]
def r9_5 : List VOp :=
  [lda 38 42 3,
   ⟨some 7, .alloc 42, 0, none⟩,
   ⟨none, .store 42 (.tmp 7) (.tmp 38), 0, none⟩]
def r9_6 : List VOp :=
  [fad 39 42 3 5,
   lda 40 39 39,
   ⟨some 41, .buildSlice 37 1 #[(0, (.tmp 40))], 37, none⟩,
   ⟨some 42, .build 39 #[(0, (.const (.int .i64 3))), (3, (.tmp 41))], 39, none⟩,
   fad 43 42 7 5,
   ⟨none, .store 39 (.tmp 43) (.tmp 42), 0, none⟩]
def r9_7 : List VOp :=
  [lda 44 42 3,
   ⟨some 8, .alloc 42, 0, none⟩,
   ⟨none, .store 42 (.tmp 8) (.tmp 44), 0, none⟩]
def r9_8 : List VOp :=
  [fad 45 42 3 5,
   lda 46 39 45,
   fad 47 42 7 5,
   lda 48 39 47,
   ⟨some 49, .buildSlice 37 2 #[(0, (.tmp 46)), (1, (.tmp 48))], 37, none⟩,
   ⟨some 50, .build 39 #[(0, (.const (.int .i64 5))), (3, (.tmp 49))], 39, none⟩,
   fad 51 42 8 5,
   ⟨none, .store 39 (.tmp 51) (.tmp 50), 0, none⟩]
def r9_9 : List VOp :=
  [lda 52 42 3,
   ⟨some 9, .alloc 42, 0, none⟩,
   ⟨none, .store 42 (.tmp 9) (.tmp 52), 0, none⟩]
def r9_10 : List VOp :=
  [fad 53 42 3 5,
   lda 54 39 53,
   ⟨some 55, .buildSlice 37 1 #[(0, (.tmp 54))], 37, none⟩,
   ⟨some 56, .build 39 #[(0, (.const (.int .i64 4))), (3, (.tmp 55))], 39, none⟩,
   fad 57 42 9 5,
   ⟨none, .store 39 (.tmp 57) (.tmp 56), 0, none⟩]
def r9_11 : List VOp :=
  [lda 58 42 3,
   ⟨some 10, .alloc 42, 0, none⟩,
   ⟨none, .store 42 (.tmp 10) (.tmp 58), 0, none⟩]
def r9_12 : List VOp :=
  [⟨some 59, .build 39 #[], 39, none⟩,
   fad 60 42 10 5,
   ⟨none, .store 39 (.tmp 60) (.tmp 59), 0, none⟩]
def r9_13 : List VOp :=
  [⟨some 61, .call ⟨.value (.func 29), #[], #[]⟩, 4, none⟩,
   mv 62 61 4,
   ⟨some 63, .load 24 (.tmp 2), 24, some (62, true)⟩,
   ⟨some 64, .load 42 (.tmp 7), 42, some (62, true)⟩,
   ⟨some 65, .call ⟨.value (.func 28), #[.tmp 63, .tmp 64], #[24, 42]⟩, 53, some (62, true)⟩,
   ⟨some 66, .binOp .eql 53 (.tmp 65) (.const (.int .i64 0)) 53, 4, some (62, true)⟩,
   ⟨some 67, .pick (.tmp 62) (.tmp 66) (.const (.bool false)), 4, none⟩,
   mv 68 67 4,
   ⟨some 69, .load 24 (.tmp 2), 24, some (68, true)⟩,
   ⟨some 70, .load 42 (.tmp 8), 42, some (68, true)⟩,
   ⟨some 71, .call ⟨.value (.func 28), #[.tmp 69, .tmp 70], #[24, 42]⟩, 53, some (68, true)⟩,
   ⟨some 72, .binOp .eql 53 (.tmp 71) (.const (.int .i64 0)) 53, 4, some (68, true)⟩,
   ⟨some 73, .pick (.tmp 68) (.tmp 72) (.const (.bool false)), 4, none⟩,
   mv 74 73 4,
   ⟨some 75, .load 24 (.tmp 2), 24, some (74, true)⟩,
   ⟨some 76, .load 42 (.tmp 9), 42, some (74, true)⟩,
   ⟨some 77, .call ⟨.value (.func 28), #[.tmp 75, .tmp 76], #[24, 42]⟩, 53, some (74, true)⟩,
   ⟨some 78, .binOp .eql 53 (.tmp 77) (.const (.int .i64 221)) 53, 4, some (74, true)⟩,
   ⟨some 79, .pick (.tmp 74) (.tmp 78) (.const (.bool false)), 4, none⟩,
   mv 80 79 4,
   ⟨some 81, .load 24 (.tmp 2), 24, some (80, true)⟩,
   ⟨some 82, .load 42 (.tmp 10), 42, some (80, true)⟩,
   ⟨some 83, .call ⟨.value (.func 28), #[.tmp 81, .tmp 82], #[24, 42]⟩, 53, some (80, true)⟩,
   ⟨some 84, .binOp .eql 53 (.tmp 83) (.const (.int .i64 0)) 53, 4, some (80, true)⟩,
   ⟨some 85, .pick (.tmp 80) (.tmp 84) (.const (.bool false)), 4, none⟩,
   mv 86 85 4,
   ⟨some 87, .load 24 (.tmp 2), 24, some (86, true)⟩,
   ⟨some 88, .load 42 (.tmp 7), 42, some (86, true)⟩,
   ⟨some 89, .call ⟨.value (.func 30), #[.tmp 87, .tmp 88], #[24, 42]⟩, 22, some (86, true)⟩,
   ⟨some 90, .move (.tmp 6), 22, some (86, true)⟩,
   ⟨some 91, .call ⟨.value (.func 32), #[.tmp 89, .tmp 90], #[22, 22]⟩, 4, some (86, true)⟩,
   ⟨some 92, .pick (.tmp 86) (.tmp 91) (.const (.bool false)), 4, none⟩,
   mv 93 92 4,
   ⟨some 94, .load 24 (.tmp 2), 24, some (93, true)⟩,
   ⟨some 95, .load 42 (.tmp 8), 42, some (93, true)⟩,
   ⟨some 96, .call ⟨.value (.func 30), #[.tmp 94, .tmp 95], #[24, 42]⟩, 22, some (93, true)⟩,
   ⟨some 97, .move (.tmp 6), 22, some (93, true)⟩,
   ⟨some 98, .call ⟨.value (.func 32), #[.tmp 96, .tmp 97], #[22, 22]⟩, 4, some (93, true)⟩,
   ⟨some 99, .pick (.tmp 93) (.tmp 98) (.const (.bool false)), 4, none⟩,
   mv 100 99 4,
   ⟨some 101, .load 24 (.tmp 2), 24, some (100, true)⟩,
   ⟨some 102, .load 42 (.tmp 10), 42, some (100, true)⟩,
   ⟨some 103, .call ⟨.value (.func 30), #[.tmp 101, .tmp 102], #[24, 42]⟩, 22, some (100, true)⟩,
   ⟨some 104, .call ⟨.builtin .len, #[.tmp 103], #[22]⟩, 3, some (100, true)⟩,
   ⟨some 105, .move (.tmp 6), 22, some (100, true)⟩,
   ⟨some 106, .call ⟨.builtin .len, #[.tmp 105], #[22]⟩, 3, some (100, true)⟩,
   ⟨some 107, .binOp .leq 3 (.tmp 104) (.tmp 106) 3, 4, some (100, true)⟩,
   ⟨some 108, .pick (.tmp 100) (.tmp 107) (.const (.bool false)), 4, none⟩,
   asg 4 108 4]
def B9 : VC :=
  (.seq (.region r9_0) (.seq (.region r9_1) (.seq (.seq (.region r9_2) (.cond (.tmp 33) (.seq (.region r9_3) .ret) .skip)) (.seq (.region r9_4) (.seq (.region r9_5) (.seq (.region r9_6) (.seq (.region r9_7) (.seq (.region r9_8) (.seq (.region r9_9) (.seq (.region r9_10) (.seq (.region r9_11) (.seq (.region r9_12) (.seq (.region r9_13) .ret)))))))))))))
theorem code9 : ∃ c, Try.f9.body = some c ∧ abs Try.f9.ntmps c = B9 := ⟨_, rfl, by kernel_rfl⟩
theorem hb9 : HasBody Try.prog 9 := hasBody_of Try.func9 (by kernel_rfl)
theorem res9 : Try.f9.results = #[(.tmp 4)] := rfl
theorem enter9 {w : World} {R : Value → World → Prop} (x0 x1 : Value) (h : vc Try.prog B9 (retK Try.prog #[(.tmp 4)] R) [] (initEnv [x0, x1] 0) w) : FnC Try.prog 9 #[x0, x1] w R := by
  obtain ⟨c, h1, h2⟩ := code9
  exact hb9.fn (ret_of_vc mixed Try.func9 h1 (Nat.le_of_ble_eq_true rfl) B9 h2 h)
@[push_cast] theorem vr9_0 : VR r9_0 [⟨some 2, .box 24 (.tmp 0), 0, none⟩, ⟨some 3, .box 42 (.tmp 1), 0, none⟩, ⟨some 4, .assign (.const (.bool false)), 4, none⟩] := vR rfl
@[push_cast] theorem vr9_1 : VR r9_1 [⟨some 11, .load 24 (.tmp 2), 24, none⟩, ⟨some 12, .load 42 (.tmp 3), 42, none⟩, ⟨some 13, .call ⟨.value (.func 27), #[.tmp 11, .tmp 12], #[24, 42]⟩, 4, none⟩, ⟨some 5, .assign (.tmp 13), 4, none⟩] := vR rfl
@[push_cast] theorem vr9_2 : VR r9_2 [⟨some 14, .move (.tmp 5), 4, none⟩, ⟨some 15, .unOp .not 4 (.tmp 14), 4, none⟩, ⟨some 16, .move (.tmp 15), 4, none⟩, ⟨some 17, .load 24 (.tmp 2), 24, some (16, false)⟩, ⟨some 18, .load 42 (.tmp 3), 42, some (16, false)⟩, ⟨some 19, .call ⟨.value (.func 28), #[.tmp 17, .tmp 18], #[24, 42]⟩, 53, some (16, false)⟩, ⟨some 20, .binOp .neq 53 (.tmp 19) (.const (.int .i64 0)) 53, 4, some (16, false)⟩, ⟨some 21, .pick (.tmp 16) (.const (.bool true)) (.tmp 20), 4, none⟩, ⟨some 22, .move (.tmp 21), 4, none⟩, ⟨some 23, .fieldAddr 42 (.tmp 3) 5, 0, some (22, false)⟩, ⟨some 24, .fieldAddr 39 (.tmp 23) 0, 0, some (22, false)⟩, ⟨some 25, .load 36 (.tmp 24), 36, some (22, false)⟩, ⟨some 26, .binOp .eql 36 (.tmp 25) (.const (.int .i64 0)) 36, 4, some (22, false)⟩, ⟨some 27, .pick (.tmp 22) (.const (.bool true)) (.tmp 26), 4, none⟩, ⟨some 28, .move (.tmp 27), 4, none⟩, ⟨some 29, .fieldAddr 42 (.tmp 3) 5, 0, some (28, false)⟩, ⟨some 30, .load 39 (.tmp 29), 39, some (28, false)⟩, ⟨some 31, .call ⟨.value (.func 31), #[.tmp 30], #[39]⟩, 3, some (28, false)⟩, ⟨some 32, .binOp .gtr 3 (.tmp 31) (.const (.int .i64 28)) 3, 4, some (28, false)⟩, ⟨some 33, .pick (.tmp 28) (.const (.bool true)) (.tmp 32), 4, none⟩] := vR rfl
@[push_cast] theorem vr9_3 : VR r9_3 [⟨some 34, .call ⟨.value (.func 29), #[], #[]⟩, 4, none⟩, ⟨some 4, .assign (.tmp 34), 4, none⟩] := vR rfl
@[push_cast] theorem vr9_4 : VR r9_4 [⟨some 35, .load 24 (.tmp 2), 24, none⟩, ⟨some 36, .load 42 (.tmp 3), 42, none⟩, ⟨some 37, .call ⟨.value (.func 30), #[.tmp 35, .tmp 36], #[24, 42]⟩, 22, none⟩, ⟨some 6, .assign (.tmp 37), 22, none⟩] := vR rfl
@[push_cast] theorem vr9_5 : VR r9_5 [⟨some 38, .load 42 (.tmp 3), 42, none⟩, ⟨some 7, .alloc 42, 0, none⟩, ⟨none, .store 42 (.tmp 7) (.tmp 38), 0, none⟩] := vR rfl
@[push_cast] theorem vr9_6 : VR r9_6 [⟨some 39, .fieldAddr 42 (.tmp 3) 5, 0, none⟩, ⟨some 40, .load 39 (.tmp 39), 39, none⟩, ⟨some 41, .buildSlice 37 1 #[(0, (.tmp 40))], 37, none⟩, ⟨some 42, .build 39 #[(0, (.const (.int .i64 3))), (3, (.tmp 41))], 39, none⟩, ⟨some 43, .fieldAddr 42 (.tmp 7) 5, 0, none⟩, ⟨none, .store 39 (.tmp 43) (.tmp 42), 0, none⟩] := vR rfl
@[push_cast] theorem vr9_7 : VR r9_7 [⟨some 44, .load 42 (.tmp 3), 42, none⟩, ⟨some 8, .alloc 42, 0, none⟩, ⟨none, .store 42 (.tmp 8) (.tmp 44), 0, none⟩] := vR rfl
@[push_cast] theorem vr9_8 : VR r9_8 [⟨some 45, .fieldAddr 42 (.tmp 3) 5, 0, none⟩, ⟨some 46, .load 39 (.tmp 45), 39, none⟩, ⟨some 47, .fieldAddr 42 (.tmp 7) 5, 0, none⟩, ⟨some 48, .load 39 (.tmp 47), 39, none⟩, ⟨some 49, .buildSlice 37 2 #[(0, (.tmp 46)), (1, (.tmp 48))], 37, none⟩, ⟨some 50, .build 39 #[(0, (.const (.int .i64 5))), (3, (.tmp 49))], 39, none⟩, ⟨some 51, .fieldAddr 42 (.tmp 8) 5, 0, none⟩, ⟨none, .store 39 (.tmp 51) (.tmp 50), 0, none⟩] := vR rfl
@[push_cast] theorem vr9_9 : VR r9_9 [⟨some 52, .load 42 (.tmp 3), 42, none⟩, ⟨some 9, .alloc 42, 0, none⟩, ⟨none, .store 42 (.tmp 9) (.tmp 52), 0, none⟩] := vR rfl
@[push_cast] theorem vr9_10 : VR r9_10 [⟨some 53, .fieldAddr 42 (.tmp 3) 5, 0, none⟩, ⟨some 54, .load 39 (.tmp 53), 39, none⟩, ⟨some 55, .buildSlice 37 1 #[(0, (.tmp 54))], 37, none⟩, ⟨some 56, .build 39 #[(0, (.const (.int .i64 4))), (3, (.tmp 55))], 39, none⟩, ⟨some 57, .fieldAddr 42 (.tmp 9) 5, 0, none⟩, ⟨none, .store 39 (.tmp 57) (.tmp 56), 0, none⟩] := vR rfl
@[push_cast] theorem vr9_11 : VR r9_11 [⟨some 58, .load 42 (.tmp 3), 42, none⟩, ⟨some 10, .alloc 42, 0, none⟩, ⟨none, .store 42 (.tmp 10) (.tmp 58), 0, none⟩] := vR rfl
@[push_cast] theorem vr9_12 : VR r9_12 [⟨some 59, .build 39 #[], 39, none⟩, ⟨some 60, .fieldAddr 42 (.tmp 10) 5, 0, none⟩, ⟨none, .store 39 (.tmp 60) (.tmp 59), 0, none⟩] := vR rfl
@[push_cast] theorem vr9_13 : VR r9_13 [⟨some 61, .call ⟨.value (.func 29), #[], #[]⟩, 4, none⟩, ⟨some 62, .move (.tmp 61), 4, none⟩, ⟨some 63, .load 24 (.tmp 2), 24, some (62, true)⟩, ⟨some 64, .load 42 (.tmp 7), 42, some (62, true)⟩, ⟨some 65, .call ⟨.value (.func 28), #[.tmp 63, .tmp 64], #[24, 42]⟩, 53, some (62, true)⟩, ⟨some 66, .binOp .eql 53 (.tmp 65) (.const (.int .i64 0)) 53, 4, some (62, true)⟩, ⟨some 67, .pick (.tmp 62) (.tmp 66) (.const (.bool false)), 4, none⟩, ⟨some 68, .move (.tmp 67), 4, none⟩, ⟨some 69, .load 24 (.tmp 2), 24, some (68, true)⟩, ⟨some 70, .load 42 (.tmp 8), 42, some (68, true)⟩, ⟨some 71, .call ⟨.value (.func 28), #[.tmp 69, .tmp 70], #[24, 42]⟩, 53, some (68, true)⟩, ⟨some 72, .binOp .eql 53 (.tmp 71) (.const (.int .i64 0)) 53, 4, some (68, true)⟩, ⟨some 73, .pick (.tmp 68) (.tmp 72) (.const (.bool false)), 4, none⟩, ⟨some 74, .move (.tmp 73), 4, none⟩, ⟨some 75, .load 24 (.tmp 2), 24, some (74, true)⟩, ⟨some 76, .load 42 (.tmp 9), 42, some (74, true)⟩, ⟨some 77, .call ⟨.value (.func 28), #[.tmp 75, .tmp 76], #[24, 42]⟩, 53, some (74, true)⟩, ⟨some 78, .binOp .eql 53 (.tmp 77) (.const (.int .i64 221)) 53, 4, some (74, true)⟩, ⟨some 79, .pick (.tmp 74) (.tmp 78) (.const (.bool false)), 4, none⟩, ⟨some 80, .move (.tmp 79), 4, none⟩, ⟨some 81, .load 24 (.tmp 2), 24, some (80, true)⟩, ⟨some 82, .load 42 (.tmp 10), 42, some (80, true)⟩, ⟨some 83, .call ⟨.value (.func 28), #[.tmp 81, .tmp 82], #[24, 42]⟩, 53, some (80, true)⟩, ⟨some 84, .binOp .eql 53 (.tmp 83) (.const (.int .i64 0)) 53, 4, some (80, true)⟩, ⟨some 85, .pick (.tmp 80) (.tmp 84) (.const (.bool false)), 4, none⟩, ⟨some 86, .move (.tmp 85), 4, none⟩, ⟨some 87, .load 24 (.tmp 2), 24, some (86, true)⟩, ⟨some 88, .load 42 (.tmp 7), 42, some (86, true)⟩, ⟨some 89, .call ⟨.value (.func 30), #[.tmp 87, .tmp 88], #[24, 42]⟩, 22, some (86, true)⟩, ⟨some 90, .move (.tmp 6), 22, some (86, true)⟩, ⟨some 91, .call ⟨.value (.func 32), #[.tmp 89, .tmp 90], #[22, 22]⟩, 4, some (86, true)⟩, ⟨some 92, .pick (.tmp 86) (.tmp 91) (.const (.bool false)), 4, none⟩, ⟨some 93, .move (.tmp 92), 4, none⟩, ⟨some 94, .load 24 (.tmp 2), 24, some (93, true)⟩, ⟨some 95, .load 42 (.tmp 8), 42, some (93, true)⟩, ⟨some 96, .call ⟨.value (.func 30), #[.tmp 94, .tmp 95], #[24, 42]⟩, 22, some (93, true)⟩, ⟨some 97, .move (.tmp 6), 22, some (93, true)⟩, ⟨some 98, .call ⟨.value (.func 32), #[.tmp 96, .tmp 97], #[22, 22]⟩, 4, some (93, true)⟩, ⟨some 99, .pick (.tmp 93) (.tmp 98) (.const (.bool false)), 4, none⟩, ⟨some 100, .move (.tmp 99), 4, none⟩, ⟨some 101, .load 24 (.tmp 2), 24, some (100, true)⟩, ⟨some 102, .load 42 (.tmp 10), 42, some (100, true)⟩, ⟨some 103, .call ⟨.value (.func 30), #[.tmp 101, .tmp 102], #[24, 42]⟩, 22, some (100, true)⟩, ⟨some 104, .call ⟨.builtin .len, #[.tmp 103], #[22]⟩, 3, some (100, true)⟩, ⟨some 105, .move (.tmp 6), 22, some (100, true)⟩, ⟨some 106, .call ⟨.builtin .len, #[.tmp 105], #[22]⟩, 3, some (100, true)⟩, ⟨some 107, .binOp .leq 3 (.tmp 104) (.tmp 106) 3, 4, some (100, true)⟩, ⟨some 108, .pick (.tmp 100) (.tmp 107) (.const (.bool false)), 4, none⟩, ⟨some 4, .assign (.tmp 108), 4, none⟩] := vR rfl
@[push_cast] theorem bsl22_0_Codes7U {K : Value → World → Prop} {w : World}  : vBuildSlice Try.prog 22 0 #[] K w = K (.slice (some ⟨w.heap.size, 0, none⟩) 0 0) (w.alloc (.cells #[] 9)) :=
  vBuildSlice_ok Try.underlying22 ti9 (by kernel_rfl) (by decide)
@[push_cast] theorem bsl37_1_Codes7U {K : Value → World → Prop} {w : World} (x00 x01 x02 x03 : Value) : vBuildSlice Try.prog 37 1 #[(0, (.agg #[x00, x01, x02, x03]))] K w = K (.slice (some ⟨w.heap.size, 0, none⟩) 1 1) (w.alloc (.cells #[x00, x01, x02, x03] 39)) :=
  vBuildSlice_ok Try.underlying37 ti39 (by kernel_rfl) (by decide)
@[push_cast] theorem bsl37_2_Codes7U {K : Value → World → Prop} {w : World} (x00 x01 x02 x03 : Value) (x10 x11 x12 x13 : Value) : vBuildSlice Try.prog 37 2 #[(0, (.agg #[x00, x01, x02, x03])), (1, (.agg #[x10, x11, x12, x13]))] K w = K (.slice (some ⟨w.heap.size, 0, none⟩) 2 2) (w.alloc (.cells #[x00, x01, x02, x03, x10, x11, x12, x13] 39)) :=
  vBuildSlice_ok Try.underlying37 ti39 (by kernel_rfl) (by decide)
@[push_cast] theorem bld24_0_1_Codes7U {K : Value → World → Prop} {w : World} (x0o : Option Addr) (x0n x0c : Nat) (x1o : Option Addr) (x1n x1c : Nat) : vBuild Try.prog 24 #[(0, (.slice x0o x0n x0c)), (1, (.slice x1o x1n x1c))] K w = K (.agg #[(.slice x0o x0n x0c), (.slice x1o x1n x1c)]) w :=
  vBuild_ok (by kernel_rfl)
@[push_cast] theorem bld24_1_Codes7U {K : Value → World → Prop} {w : World} (x1o : Option Addr) (x1n x1c : Nat) : vBuild Try.prog 24 #[(1, (.slice x1o x1n x1c))] K w = K (.agg #[(.slice none 0 0), (.slice x1o x1n x1c)]) w :=
  vBuild_ok (by kernel_rfl)
@[push_cast] theorem bld39__Codes7U {K : Value → World → Prop} {w : World}  : vBuild Try.prog 39 #[] K w = K (.agg #[(.int .i64 0), (.string ⟨#[]⟩), (.string ⟨#[]⟩), (.slice none 0 0)]) w :=
  vBuild_ok (by kernel_rfl)
@[push_cast] theorem bld39_0_3_Codes7U {K : Value → World → Prop} {w : World} (x0 : Int) (x3o : Option Addr) (x3n x3c : Nat) : vBuild Try.prog 39 #[(0, (.int .i64 x0)), (3, (.slice x3o x3n x3c))] K w = K (.agg #[(.int .i64 x0), (.string ⟨#[]⟩), (.string ⟨#[]⟩), (.slice x3o x3n x3c)]) w :=
  vBuild_ok (by kernel_rfl)
end Go.Proofs.Ytnofalhkapmcnaa
end
