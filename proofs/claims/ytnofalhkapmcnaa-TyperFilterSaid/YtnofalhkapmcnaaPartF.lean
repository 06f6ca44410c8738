/- Names, values: the document's (printed by mk7.py out of XSch1). -/
import Derived.Test.YtnofalhkapmcnaaPartE
set_option linter.all false
open Nat renaming reduceEqDiff → zA, reducePow → zB, reduceMul → zC, reduceAdd → zD, reduceSub → zE, reduceLeDiff → zF
open Int renaming reduceToNat → zG, reducePow → zH, reduceNeg → zI, reduceMul → zJ, reduceAdd → zK, reduceSub → zL, reduceLT → zM, reduceLE → zN, reduceEq → zO, reduceMod → zP, reduceDiv → zQ
section
set_option linter.unusedSimpArgs false
namespace Go.Proofs.Ytnofalhkapmcnaa
open Go.Vc Go.Key
set_option maxRecDepth 100000
def vlB (b : UInt8) : Bool := decide (32 ≤ b.toNat) && decide (b.toNat ≤ 126) && !decide (b.toNat = 34) && !decide (b.toNat = 92)
def VlOk (s : ByteArray) : Prop := (∀ i (h : i < s.size), vlB s[i] = true) ∧ s.size ≤ 24
instance (s : ByteArray) : Decidable (VlOk s) := inferInstanceAs (Decidable ((∀ i (h : i < s.size), vlB s[i] = true) ∧ s.size ≤ 24))
def wordsL : List ByteArray := [⟨#[99, 111, 117, 110, 116]⟩, ⟨#[115, 117, 109]⟩, ⟨#[109, 105, 110]⟩, ⟨#[109, 97, 120]⟩, ⟨#[102, 114, 111, 109]⟩, ⟨#[116, 111]⟩, ⟨#[98, 121]⟩, ⟨#[101, 118, 101, 114, 121]⟩, ⟨#[119, 104, 101, 114, 101]⟩, ⟨#[104, 97, 118, 105, 110, 103]⟩, ⟨#[111, 114, 100, 101, 114]⟩, ⟨#[108, 105, 109, 105, 116]⟩, ⟨#[97, 110, 100]⟩, ⟨#[111, 114]⟩, ⟨#[110, 111, 116]⟩, ⟨#[105, 115]⟩, ⟨#[110, 117, 108, 108]⟩, ⟨#[97, 115, 99]⟩, ⟨#[100, 101, 115, 99]⟩, ⟨#[115, 101, 108, 101, 99, 116]⟩]
theorem words_c (w : World) : FnC Try.prog 126 #[] w fun r w' => StS w' r wordsL ∧ Later w w' := by
  refine enter126 ?_
  unfold B126
  repeat' (first | (simp (disch := omega) only [push_cast, ↓reduceIte, zA, zG, zB, zH, zI, zC, zJ, zK, zL, zD, zE, zF, zM, zN, zO, zP, zQ, reduceCtorEq, not_true_eq_false, not_false_eq_true]) | (first | refine iE ?_ ?_ | refine iD ?_ ?_ | refine iQ ?_ ?_ | refine iV ?_ ?_) <;> intro _ | refine And.intro (by omega) ?_ | refine drawn_q ?_ | fail)
  exact ⟨Sl.of_blk (xs := wordsL.map Value.string) (Blk.new w _ _) rfl (by unfold maxLen; omega), later_alloc _ _⟩
def nmB (i : Nat) (b : UInt8) : Prop := (97 ≤ b.toNat ∧ b.toNat ≤ 122) ∨ (i ≠ 0 ∧ ((48 ≤ b.toNat ∧ b.toNat ≤ 57) ∨ b.toNat = 95))
instance (i : Nat) (b : UInt8) : Decidable (nmB i b) := inferInstanceAs (Decidable (_ ∨ _))
def NmOk (s : ByteArray) : Prop := (∀ x ∈ wordsL, x ≠ s) ∧ (∀ i (h : i < s.size), nmB i s[i]) ∧ 1 ≤ s.size ∧ s.size ≤ 12
instance (s : ByteArray) : Decidable (NmOk s) := inferInstanceAs (Decidable ((∀ x ∈ wordsL, x ≠ s) ∧ (∀ i (h : i < s.size), nmB i s[i]) ∧ 1 ≤ s.size ∧ s.size ≤ 12))
theorem dname_c (s : ByteArray) (w : World) (hs : s.size ≤ 9223372036854775807) : FnC Try.prog 87 #[.string s] w fun r w' => r = .bool (decide (NmOk s)) ∧ Later w w' := by
  refine enter87 _ ?_
  unfold B87
  repeat' (first | (simp (disch := omega) only [push_cast, ↓reduceIte, zA, zG, zB, zH, zI, zC, zJ, zK, zL, zD, zE, zF, zM, zN, zO, zP, zQ, reduceCtorEq, not_true_eq_false, not_false_eq_true]) | (first | refine iE ?_ ?_ | refine iD ?_ ?_ | refine iQ ?_ ?_ | refine iV ?_ ?_) <;> intro _ | refine And.intro (by omega) ?_ | refine drawn_q ?_ | fail)
  refine (words_c w).mono ?_
  rintro v w1 ⟨hW, l1⟩
  obtain ⟨o, c, rfl⟩ := Sl.slice hW
  have hl : (wordsL.map Value.string).length = 20 := rfl
  rw [hl]
  rw [hl] at hW
  repeat' (first | (simp (disch := omega) only [push_cast, ↓reduceIte, zA, zG, zB, zH, zI, zC, zJ, zK, zL, zD, zE, zF, zM, zN, zO, zP, zQ, reduceCtorEq, not_true_eq_false, not_false_eq_true]) | (first | refine iE ?_ ?_ | refine iD ?_ ?_ | refine iQ ?_ ?_ | refine iV ?_ ?_) <;> intro _ | refine And.intro (by omega) ?_ | refine drawn_q ?_ | fail)
  refine vc_loop W87_0 (fun i : Nat => [(2, .bool false), (4, .int .i64 (i : Int))])
    (fun i w' => i ≤ 20 ∧ Later w1 w' ∧ ∀ j (h : j < wordsL.length), j < i → wordsL[j] ≠ s) (fun i => 20 - i) 0 (by decide) ?_ ?_ ?_
  · simp (disch := omega) only [push_cast, ↓reduceIte, zA, zG, zB, zH, zI, zC, zJ, zK, zL, zD, zE, zF, zM, zN, zO, zP, zQ, reduceCtorEq, not_true_eq_false, not_false_eq_true]
  · exact ⟨by omega, Later.refl _, fun j _ hj => absurd hj (Nat.not_lt_zero _)⟩
  rintro i uu w2 ⟨hi, l2, hA⟩
  by_cases hlt : i < wordsL.length
  · have hlt' : i < 20 := hlt
    cases o with
    | none => have := Sl.len hW; simp [wordsL] at this
    | some a =>
    have hc := StS.atS (Sl.later hW l2) hlt
    by_cases hv : wordsL[i] = s
    · have hno : decide (NmOk s) = false := decide_eq_false fun h => h.1 _ (List.getElem_mem hlt) hv
      repeat' (first | (simp (disch := omega) only [push_cast, ↓reduceIte, zA, zG, zB, zH, zI, zC, zJ, zK, zL, zD, zE, zF, zM, zN, zO, zP, zQ, reduceCtorEq, not_true_eq_false, not_false_eq_true, hc, hv, decide_true]) | (first | refine iE ?_ ?_ | refine iD ?_ ?_ | refine iQ ?_ ?_ | refine iV ?_ ?_) <;> intro _ | refine And.intro (by omega) ?_ | refine drawn_q ?_ | fail)
      first | exact ⟨by rw [hno], (l1.trans l2)⟩ | exact (l1.trans l2)
    · repeat' (first | (simp (disch := omega) only [push_cast, ↓reduceIte, zA, zG, zB, zH, zI, zC, zJ, zK, zL, zD, zE, zF, zM, zN, zO, zP, zQ, reduceCtorEq, not_true_eq_false, not_false_eq_true, hc, hv, decide_false]) | (first | refine iE ?_ ?_ | refine iD ?_ ?_ | refine iQ ?_ ?_ | refine iV ?_ ?_) <;> intro _ | refine And.intro (by omega) ?_ | refine drawn_q ?_ | fail)
      refine ⟨rfl, i + 1, by simp (disch := omega) only [push_cast, ↓reduceIte, zA, zG, zB, zH, zI, zC, zJ, zK, zL, zD, zE, zF, zM, zN, zO, zP, zQ, reduceCtorEq, not_true_eq_false, not_false_eq_true], ⟨by omega, l2, fun j hj hji => ?_⟩, by dsimp only; omega⟩
      by_cases h : j < i
      · exact hA j hj h
      · have : j = i := by omega
        subst this
        exact hv
  have hi20 : i = 20 := by have : wordsL.length = 20 := rfl; omega
  subst hi20
  have hmem : ∀ x ∈ wordsL, x ≠ s := by
    intro x hm
    obtain ⟨j, hj, rfl⟩ := List.getElem_of_mem hm
    exact hA j hj hj
  have l12 := l1.trans l2
  repeat' (first | (simp (disch := omega) only [push_cast, ↓reduceIte, zA, zG, zB, zH, zI, zC, zJ, zK, zL, zD, zE, zF, zM, zN, zO, zP, zQ, reduceCtorEq, not_true_eq_false, not_false_eq_true]) | (first | refine iE ?_ ?_ | refine iD ?_ ?_ | refine iQ ?_ ?_ | refine iV ?_ ?_) <;> intro _ | refine And.intro (by omega) ?_ | refine drawn_q ?_ | fail)
  refine vc_loop W87_1 (fun i : Nat => [(2, .bool false), (5, .int .i64 (i : Int))])
    (fun i w' => i ≤ s.size ∧ w' = w2 ∧ ∀ j (h : j < s.size), j < i → nmB j s[j]) (fun i => s.size - i) 0 (by decide) ?_ ?_ ?_
  · simp (disch := omega) only [push_cast, ↓reduceIte, zA, zG, zB, zH, zI, zC, zJ, zK, zL, zD, zE, zF, zM, zN, zO, zP, zQ, reduceCtorEq, not_true_eq_false, not_false_eq_true]
  · exact ⟨by omega, rfl, fun j _ hj => absurd hj (Nat.not_lt_zero _)⟩
  rintro i uu2 w0 ⟨hi, h0, hB⟩
  obtain rfl := h0.symm
  by_cases hlt : i < s.size
  · have hg : s[i]? = some s[i] := getElem?_pos s i hlt
    have hno : ¬ nmB i s[i] → decide (NmOk s) = false := fun hv => decide_eq_false fun h => hv (h.2.1 i hlt)
    have hyes : nmB i s[i] → ∀ j (h : j < s.size), j < i + 1 → nmB j s[j] := by
      intro hv j hj hji
      by_cases h : j < i
      · exact hB j hj h
      · have : j = i := by omega
        subst this
        exact hv
    generalize hN : nmB i s[i] = N at hno hyes
    unfold nmB at hN
    generalize s[i] = ch at *
    repeat' (first | (simp (disch := omega) only [push_cast, ↓reduceIte, zA, zG, zB, zH, zI, zC, zJ, zK, zL, zD, zE, zF, zM, zN, zO, zP, zQ, reduceCtorEq, not_true_eq_false, not_false_eq_true, hg]) | (first | refine iE ?_ ?_ | refine iD ?_ ?_ | refine iQ ?_ ?_ | refine iV ?_ ?_) <;> intro _ | refine And.intro (by omega) ?_ | refine drawn_q ?_ | fail)
    all_goals first
      | (have hn : ¬ N := by rw [← hN]; omega
         first | exact ⟨by rw [hno hn], l12⟩ | (rw [hno hn]))
      | (have hn : N := by rw [← hN]; omega
         exact ⟨rfl, i + 1, by simp (disch := omega) only [push_cast, ↓reduceIte, zA, zG, zB, zH, zI, zC, zJ, zK, zL, zD, zE, zF, zM, zN, zO, zP, zQ, reduceCtorEq, not_true_eq_false, not_false_eq_true], ⟨by omega, rfl, hyes hn⟩, by dsimp only; omega⟩)
  · have hall : ∀ j (h : j < s.size), nmB j s[j] := fun j hj => hB j hj (by omega)
    have hd : decide (NmOk s) = (decide (1 ≤ s.size) && decide (s.size ≤ 12)) := by
      rw [← Bool.decide_and]
      exact decide_eq_decide.2 ⟨fun h => h.2.2, fun h => ⟨hmem, hall, h⟩⟩
    by_cases h1 : 1 ≤ s.size
    · by_cases h2 : s.size ≤ 12
      · rw [hd, decide_eq_true h1, decide_eq_true h2]
        repeat' (first | (simp (disch := omega) only [push_cast, ↓reduceIte, zA, zG, zB, zH, zI, zC, zJ, zK, zL, zD, zE, zF, zM, zN, zO, zP, zQ, reduceCtorEq, not_true_eq_false, not_false_eq_true]) | (first | refine iE ?_ ?_ | refine iD ?_ ?_ | refine iQ ?_ ?_ | refine iV ?_ ?_) <;> intro _ | refine And.intro (by omega) ?_ | refine drawn_q ?_ | fail)
        first | exact ⟨congrArg Value.bool (decide_eq_true (by omega)), l12⟩ | exact l12
      · rw [hd, decide_eq_true h1, decide_eq_false h2]
        repeat' (first | (simp (disch := omega) only [push_cast, ↓reduceIte, zA, zG, zB, zH, zI, zC, zJ, zK, zL, zD, zE, zF, zM, zN, zO, zP, zQ, reduceCtorEq, not_true_eq_false, not_false_eq_true]) | (first | refine iE ?_ ?_ | refine iD ?_ ?_ | refine iQ ?_ ?_ | refine iV ?_ ?_) <;> intro _ | refine And.intro (by omega) ?_ | refine drawn_q ?_ | fail)
        first | exact ⟨congrArg Value.bool (decide_eq_false (by omega)), l12⟩ | exact l12
    · rw [hd, decide_eq_false h1]
      repeat' (first | (simp (disch := omega) only [push_cast, ↓reduceIte, zA, zG, zB, zH, zI, zC, zJ, zK, zL, zD, zE, zF, zM, zN, zO, zP, zQ, reduceCtorEq, not_true_eq_false, not_false_eq_true]) | (first | refine iE ?_ ?_ | refine iD ?_ ?_ | refine iQ ?_ ?_ | refine iV ?_ ?_) <;> intro _ | refine And.intro (by omega) ?_ | refine drawn_q ?_ | fail)
      first | exact ⟨rfl, l12⟩ | exact l12
/-- Texts that are gone through. -/
def F10 (l : List ByteArray) : Prop := l.length ≤ 20 ∧ ∀ s ∈ l, s.size ≤ 80
instance (l : List ByteArray) : Decidable (F10 l) := inferInstanceAs (Decidable (_ ∧ _))
theorem fits10_c (v : Value) (l : List ByteArray) (w : World) (h : StS w v l) (hs : ∀ s ∈ l, s.size ≤ 9223372036854775807) : FnC Try.prog 53 #[v] w fun r w' => r = .bool (decide (F10 l)) ∧ w' = w := by
  obtain ⟨o, c, rfl⟩ := Sl.slice h
  rw [List.length_map] at h ⊢
  refine enter53 _ ?_
  unfold B53
  have hbig := (Sl.len h).2.1
  have hbig2 := (Sl.len h).2.2.1
  unfold maxLen at hbig2
  repeat' (first | (simp (disch := omega) only [push_cast, ↓reduceIte, zA, zG, zB, zH, zI, zC, zJ, zK, zL, zD, zE, zF, zM, zN, zO, zP, zQ, reduceCtorEq, not_true_eq_false, not_false_eq_true]) | (first | refine iE ?_ ?_ | refine iD ?_ ?_ | refine iQ ?_ ?_ | refine iV ?_ ?_) <;> intro _ | refine And.intro (by omega) ?_ | refine drawn_q ?_ | fail)
  refine vc_loop W53_0 (fun i : Nat => [(2, .bool false), (3, .int .i64 (i : Int))])
    (fun i w' => i ≤ l.length ∧ i ≤ 20 ∧ w' = w ∧ ∀ j (h : j < l.length), j < i → l[j].size ≤ 80) (fun i => l.length - i) 0 (by decide) ?_ ?_ ?_
  · simp (disch := omega) only [push_cast, ↓reduceIte, zA, zG, zB, zH, zI, zC, zJ, zK, zL, zD, zE, zF, zM, zN, zO, zP, zQ, reduceCtorEq, not_true_eq_false, not_false_eq_true]
  · exact ⟨by omega, by omega, rfl, fun j _ hj => absurd hj (Nat.not_lt_zero _)⟩
  rintro i uu w0 ⟨hi, hi20, h0, hA⟩
  obtain rfl := h0.symm
  by_cases hlt : i < l.length
  · cases o with
    | none => have := (Sl.len h).2.2.2 rfl; simp at this; rw [this.1] at hlt; simp at hlt
    | some a =>
    have hc := StS.atS h hlt
    have hz := hs _ (List.getElem_mem hlt)
    by_cases h20 : i = 20
    · have hno : decide (F10 l) = false := decide_eq_false fun h => by have := h.1; omega
      subst h20
      repeat' (first | (simp (disch := omega) only [push_cast, ↓reduceIte, zA, zG, zB, zH, zI, zC, zJ, zK, zL, zD, zE, zF, zM, zN, zO, zP, zQ, reduceCtorEq, not_true_eq_false, not_false_eq_true, hc]) | (first | refine iE ?_ ?_ | refine iD ?_ ?_ | refine iQ ?_ ?_ | refine iV ?_ ?_) <;> intro _ | refine And.intro (by omega) ?_ | refine drawn_q ?_ | fail)
      first | exact ⟨by rw [hno], trivial⟩ | (rw [hno])
    · by_cases h80 : l[i].size ≤ 80
      · repeat' (first | (simp (disch := omega) only [push_cast, ↓reduceIte, zA, zG, zB, zH, zI, zC, zJ, zK, zL, zD, zE, zF, zM, zN, zO, zP, zQ, reduceCtorEq, not_true_eq_false, not_false_eq_true, hc]) | (first | refine iE ?_ ?_ | refine iD ?_ ?_ | refine iQ ?_ ?_ | refine iV ?_ ?_) <;> intro _ | refine And.intro (by omega) ?_ | refine drawn_q ?_ | fail)
        refine ⟨rfl, i + 1, by simp (disch := omega) only [push_cast, ↓reduceIte, zA, zG, zB, zH, zI, zC, zJ, zK, zL, zD, zE, zF, zM, zN, zO, zP, zQ, reduceCtorEq, not_true_eq_false, not_false_eq_true], ⟨by omega, by omega, rfl, fun j hj hji => ?_⟩, by dsimp only; omega⟩
        by_cases h : j < i
        · exact hA j hj h
        · have : j = i := by omega
          subst this
          exact h80
      · have hno : decide (F10 l) = false := decide_eq_false fun h => h80 (h.2 _ (List.getElem_mem _))
        repeat' (first | (simp (disch := omega) only [push_cast, ↓reduceIte, zA, zG, zB, zH, zI, zC, zJ, zK, zL, zD, zE, zF, zM, zN, zO, zP, zQ, reduceCtorEq, not_true_eq_false, not_false_eq_true, hc]) | (first | refine iE ?_ ?_ | refine iD ?_ ?_ | refine iQ ?_ ?_ | refine iV ?_ ?_) <;> intro _ | refine And.intro (by omega) ?_ | refine drawn_q ?_ | fail)
        first | exact ⟨by rw [hno], trivial⟩ | (rw [hno])
  · have hyes : decide (F10 l) = true := decide_eq_true ⟨by omega, fun s hs => by
      obtain ⟨j, hj, rfl⟩ := List.getElem_of_mem hs
      exact hA j hj (by omega)⟩
    repeat' (first | (simp (disch := omega) only [push_cast, ↓reduceIte, zA, zG, zB, zH, zI, zC, zJ, zK, zL, zD, zE, zF, zM, zN, zO, zP, zQ, reduceCtorEq, not_true_eq_false, not_false_eq_true]) | (first | refine iE ?_ ?_ | refine iD ?_ ?_ | refine iQ ?_ ?_ | refine iV ?_ ?_) <;> intro _ | refine And.intro (by omega) ?_ | refine drawn_q ?_ | fail)
    rw [hyes]
end Go.Proofs.Ytnofalhkapmcnaa
end
section
set_option linter.unusedSimpArgs false
namespace Go.Proofs.Ytnofalhkapmcnaa
open Go.Vc Go.Key
set_option maxRecDepth 100000
theorem own_is (op : Int) (d v : ByteArray) (n : Nat) : decide (FT.own op d v n) =
    (if op = 1 then decide (n = 0) else if op = 2 then decide (n = 0) && decide (v = ⟨#[]⟩) else if op = 3 then decide (n = 1) && decide (d = ⟨#[]⟩) && decide (v = ⟨#[]⟩) else if op = 4 ∨ op = 5 then decide (2 ≤ n) && decide (d = ⟨#[]⟩) && decide (v = ⟨#[]⟩) else false) := by
  have e : ∀ s : ByteArray, (s.size = 0) ↔ s = ⟨#[]⟩ := by
    intro s
    constructor
    · intro h
      obtain ⟨a⟩ := s
      have : a.size = 0 := h
      rw [Array.size_eq_zero_iff] at this
      rw [this]
    · rintro rfl; rfl
  unfold FT.own
  simp only [e]
  by_cases h1 : op = 1
  · subst h1; simp
  by_cases h2 : op = 2
  · subst h2; simp
  by_cases h3 : op = 3
  · subst h3; simp [Bool.and_assoc]
  by_cases h4 : op = 4
  · subst h4; simp [Bool.and_assoc]
  by_cases h5 : op = 5
  · subst h5; simp [Bool.and_assoc]
  simp [h1, h2, h3, h4, h5]
end Go.Proofs.Ytnofalhkapmcnaa
end
section
set_option linter.unusedSimpArgs false
namespace Go.Vc
open Go.RowKit in
/-- An append to an empty literal. -/
theorem vAppend_fresh {P : Program} {w : World} {K : Value → World → Prop} {t e ty : TypeId} {z : Value} {s b : Nat} (ht : P.underlying t = some (.slice e)) (hi : (P.info? e).map (fun i => (i.zero, i.size, i.bytes)) = some (some z, s, b)) (hzs : z.cells.size = s) (hsz : 0 < s)
    {db : Nat} {x : Value} {m : Nat} {news : List Value} (hx : SlN w s x m news) (h63 : m ≤ maxLen) (hb : m * b ≤ 140737488355328)
    (hK : ∀ v' w', (m = 0 → v' = .slice (some ⟨db, 0, none⟩) 0 0 ∧ w' = w) → (0 < m → w'.ownsRow w.heap.size e s v' m news ∧ Later w w') → K v' w') : vAppend P #[t, t] ty #[.slice (some ⟨db, 0, none⟩) 0 0, x] K w := by
  obtain ⟨i, hi1, hz, hsi, hbi⟩ := info_parts hi
  unfold vAppend
  obtain ⟨hl, hr⟩ := hx
  rcases hr with ⟨rfl, rfl⟩ | ⟨ad, c, rfl, hc1, hc2, hc3⟩
  · rw [run_val_pure (run_append_nil_src ht hi (some ⟨db, 0, none⟩) 0 0 (Nat.le_refl _) (fun ho => by cases ho))]
    exact hK _ _ (fun _ => ⟨rfl, rfl⟩) (fun h => absurd h (Nat.lt_irrefl _))
  · by_cases hm : m = 0
    · subst hm
      have hn : news = [] := List.eq_nil_of_length_eq_zero (by simpa using hl)
      subst hn
      have hrun := run_append_room_cells (P := P) w t ty e i ht hi1 db 0 0 0 ad 0 c [] (by simp) (fun j u h => by simp at h) (fun u h => by simp at h) (by omega) (fun j h => by simp at h) (fun j h => by simp at h)
      rw [run_val_pure hrun]
      exact hK _ _ (fun _ => ⟨rfl, rfl⟩) (fun h => absurd h (Nat.lt_irrefl _))
    · obtain ⟨v', w', hrun, ho, hg⟩ := run_append_arg_grows (P := P) w t ty e i z s b ht hi1 hz hsi hbi hzs hsz ⟨db, 0, none⟩ 0 0 [] (by simp) (fun j u h => by simp at h) ad m c news hl hc3 (by omega) (by omega) (by simpa using hb)
      rw [run_val_pure hrun]
      refine hK _ _ (fun h => absurd h hm) (fun _ => ⟨by simpa using ho, hg.os, hg.tape, hg.output, hg.size, fun k hk => hg.block k hk (by simp)⟩)
/-- An append to what hangs on the world. -/
theorem nR_app {P : Program} {args : Array Operand} {ts : Array TypeId} {ty : TypeId} {rs : List Nat} {Ns : NS} {σ : Env} {w : World} {Kv : Value → Prop} {Kn : (Value → World → Prop) → Prop} (V' : Value → World → Prop) (hV' : Stb w V')
    (h : ∀ σ' w', Later w w' → psis Ns σ w' σ' rs → vAppend P ts ty (args.map (ev σ')) (fun v w'' => Later w' w'' ∧ V' v w'') w') (hk : Kn V') : nR P (.call ⟨.builtin .append, args, ts⟩) ty rs Ns σ w Kv Kn :=
  .inr ⟨V', hV', fun σ' w' hl hp => nUp_val (h σ' w' hl hp), hk⟩
end Go.Vc
namespace Go.Proofs.Ytnofalhkapmcnaa
open Go.Vc Go.Key
set_option maxRecDepth 100000
abbrev OwnS (w : World) (B : Nat) (v : Value) (l : List ByteArray) : Prop := w.ownsRow B 9 1 v l.length (l.map Value.string)
theorem stb_ownS (w0 : World) (B : Nat) (l : List ByteArray) : Stb w0 (fun v w => OwnS w B v l) := fun _ _ _ _ hl h => own_later h hl
def Lit0 (B : Nat) (v : Value) (w : World) : Prop := (∃ b, v = .slice (some ⟨b, 0, none⟩) 0 0) ∧ OwnS w B v []
theorem stb_lit0 (w0 : World) (B : Nat) : Stb w0 (Lit0 B) := fun _ _ _ _ hl h => ⟨h.1, own_later h.2 hl⟩
theorem box2 (w : World) (a b : Value) (e : TypeId) : Later w (w.alloc (.cells #[a, b] e)) ∧ (w.alloc (.cells #[a, b] e)).heap.size = w.heap.size + 1 ∧ ∀ w', Later (w.alloc (.cells #[a, b] e)) w' → w'.cell? ⟨w.heap.size, 0, none⟩ = some a ∧ w'.cell? ⟨w.heap.size, 1, none⟩ = some b ∧ cellsAt w' ⟨w.heap.size, 0, none⟩ 2 = some [a, b] := by
  refine ⟨later_alloc _ _, World.size_alloc _ _, fun w' hl => ?_⟩
  have := (Blk.new w #[a, b] e).chg (Chg.of_later (ks := []) hl) (by simp)
  exact ⟨this.cell 0, this.cell 1, Blk.cellsAt (l := [a, b]) this⟩
/-- Texts, whose lengths are numbers. -/
def StZ (l : List ByteArray) : Prop := ∀ s ∈ l, s.size ≤ 9223372036854775807
structure ScIs (w : World) (dv mv : Value) (d m : List ByteArray) : Prop where
  dS : StS w dv d
  mS : StS w mv m
  dZ : StZ d
  mZ : StZ m
theorem ScIs.later {w w' : World} {dv mv : Value} {d m : List ByteArray} (h : ScIs w dv mv d m) (hl : Later w w') : ScIs w' dv mv d m := ⟨Sl.later h.dS hl, Sl.later h.mS hl, h.dZ, h.mZ⟩
def scV (dv mv : Value) : Value := .agg #[dv, mv]
def ScOk (d m : List ByteArray) : Prop := (∀ x ∈ d ++ m, NmOk x) ∧ (d ++ m).Pairwise (fun x y => x ≠ y) ∧ 1 ≤ d.length ∧ d.length ≤ 6 ∧ m.length ≤ 4
instance (d m : List ByteArray) : Decidable (ScOk d m) := inferInstanceAs (Decidable ((∀ x ∈ d ++ m, NmOk x) ∧ (d ++ m).Pairwise (fun x y => x ≠ y) ∧ 1 ≤ d.length ∧ d.length ≤ 6 ∧ m.length ≤ 4))
theorem StS.n {w : World} {v : Value} {l : List ByteArray} (h : StS w v l) : SlN w 1 v l.length (l.map Value.string) := by
  have := h
  unfold StS Sl at this
  rwa [List.length_map] at this
/-- Texts behind texts of the call's own. -/
theorem vAppend_ss {w : World} {K : Value → World → Prop} {ty : TypeId} {B : Nat} {v x : Value} {l r : List ByteArray} (hown : OwnS w B v l) (hx : StS w x r) (h63 : l.length + r.length ≤ 100000000) (hbase : B ≤ w.heap.size)
    (hK : ∀ v' w', OwnS w' B v' (l ++ r) → w.grownBy w' v.ownBlock → (v'.ownBlock = v.ownBlock ∨ v'.ownBlock = some w.heap.size) → K v' w') : vAppend Try.prog #[22, 22] ty #[v, x] K w := by
  refine vAppend_at Try.underlying22 ti9 rfl (by decide) hown hx.n ?_ (by unfold maxLen; omega) (by omega) hbase ?_
  · intro u hu
    obtain ⟨p, hp, rfl⟩ := List.mem_map.1 hu
    rfl
  · intro v' w' ho hg hs
    refine hK v' w' ?_ hg hs
    unfold OwnS
    simpa using ho
theorem ok_step {L : List ByteArray} {i : Nat} (hi : i < L.length) (hd : (L.take i).Pairwise (fun x y => x ≠ y)) (hn : ∀ j (h : j < L.length), j < i → L[j] ≠ L[i]) : (L.take (i + 1)).Pairwise (fun x y => x ≠ y) := by
  rw [take_snoc L i hi, List.pairwise_append]
  refine ⟨hd, by simp, fun a ha b hb => ?_⟩
  rw [List.mem_singleton.1 hb]
  obtain ⟨j, hj, rfl⟩ := List.getElem_of_mem ha
  rw [List.length_take] at hj
  rw [List.getElem_take]
  exact hn j (by omega) (by omega)
theorem dschema_c (dv mv : Value) (d m : List ByteArray) (w : World) (h : ScIs w dv mv d m) (fd : d.length ≤ 2000000) (fm : m.length ≤ 2000000) : FnC Try.prog 55 #[scV dv mv] w fun r w' => r = .bool (decide (ScOk d m)) ∧ Later w w' := by
  unfold scV
  obtain ⟨od, cd, hdv⟩ := Sl.slice h.dS
  obtain ⟨om, cm, hmv⟩ := Sl.slice h.mS
  rw [List.length_map] at hdv hmv
  refine enter55 _ ?_
  unfold B55
  obtain ⟨l1, s1, F⟩ := box2 w dv mv 24
  have eca : (Value.agg #[dv, mv]).cells = #[dv, mv] := rfl
  repeat' (first | (simp (disch := omega) only [push_cast, ↓reduceIte, zA, zG, zB, zH, zI, zC, zJ, zK, zL, zD, zE, zF, zM, zN, zO, zP, zQ, reduceCtorEq, not_true_eq_false, not_false_eq_true, eca, s1]) | (first | refine iE ?_ ?_ | refine iD ?_ ?_ | refine iQ ?_ ?_ | refine iV ?_ ?_) <;> intro _ | refine And.intro (by omega) ?_ | fail)
  generalize w.alloc (.cells #[dv, mv] 24) = w1 at *
  obtain ⟨a0, a1, _⟩ := F w1 (Later.refl _)
  have h1 := h.later l1
  refine drawn_k 6 ?_
  repeat' (first | (simp (disch := omega) only [push_cast, ↓reduceIte, zA, zG, zB, zH, zI, zC, zJ, zK, zL, zD, zE, zF, zM, zN, zO, zP, zQ, reduceCtorEq, not_true_eq_false, not_false_eq_true, a0, a1, addr_add_eq, Nat.zero_add]) | (first | refine iE ?_ ?_ | refine iD ?_ ?_ | refine iQ ?_ ?_ | refine iV ?_ ?_) <;> intro _ | refine And.intro (by omega) ?_ | fail)
  refine nB_of _ (Lit0 w1.heap.size) (stb_lit0 _ _) (fun w' hl => ?_) ?_
  · repeat' (first | (simp (disch := omega) only [push_cast, ↓reduceIte, zA, zG, zB, zH, zI, zC, zJ, zK, zL, zD, zE, zF, zM, zN, zO, zP, zQ, reduceCtorEq, not_true_eq_false, not_false_eq_true]) | (first | refine iE ?_ ?_ | refine iD ?_ ?_ | refine iQ ?_ ?_ | refine iV ?_ ?_) <;> intro _ | refine And.intro (by omega) ?_ | fail)
    exact ⟨later_alloc _ _, ⟨_, rfl⟩, own_lit w' [] _ 1 0 rfl (by unfold maxLen; omega) hl.size⟩
  repeat' (first | (simp (disch := omega) only [push_cast, ↓reduceIte, zA, zG, zB, zH, zI, zC, zJ, zK, zL, zD, zE, zF, zM, zN, zO, zP, zQ, reduceCtorEq, not_true_eq_false, not_false_eq_true, a0, a1, addr_add_eq, Nat.zero_add]) | (first | refine iE ?_ ?_ | refine iD ?_ ?_ | refine iQ ?_ ?_ | refine iV ?_ ?_) <;> intro _ | refine And.intro (by omega) ?_ | fail)
  refine nR_app (fun v w' => OwnS w' w1.heap.size v d) (stb_ownS _ _ _) (fun σ' w' hl hp => ?_) ?_
  · obtain ⟨hp26, hp28, _⟩ := hp
    obtain ⟨⟨lb, h26⟩, h26o⟩ : Lit0 w1.heap.size (σ' 7) w' := hp26
    have h28 : σ' 9 = dv := hp28
    have hsn := (h1.later hl).dS.n
    rw [h26] at h26o
    repeat' (first | (simp (disch := omega) only [push_cast, ↓reduceIte, zA, zG, zB, zH, zI, zC, zJ, zK, zL, zD, zE, zF, zM, zN, zO, zP, zQ, reduceCtorEq, not_true_eq_false, not_false_eq_true, h28, h26]) | (first | refine iE ?_ ?_ | refine iD ?_ ?_ | refine iQ ?_ ?_ | refine iV ?_ ?_) <;> intro _ | refine And.intro (by omega) ?_ | fail)
    refine vAppend_fresh Try.underlying22 ti9 rfl (by decide) hsn (by unfold maxLen; omega) (by omega) ?_
    intro v' w'' h0 h1
    rcases Nat.eq_zero_or_pos d.length with hz | hz
    · obtain ⟨rfl, rfl⟩ := h0 hz
      have : d = [] := List.length_eq_zero_iff.1 hz
      rw [this]
      exact ⟨Later.refl _, h26o⟩
    · obtain ⟨ho, hll⟩ := h1 hz
      exact ⟨hll, own_base ho hl.size⟩
  repeat' (first | (simp (disch := omega) only [push_cast, ↓reduceIte, zA, zG, zB, zH, zI, zC, zJ, zK, zL, zD, zE, zF, zM, zN, zO, zP, zQ, reduceCtorEq, not_true_eq_false, not_false_eq_true, a0, a1, addr_add_eq, Nat.zero_add]) | (first | refine iE ?_ ?_ | refine iD ?_ ?_ | refine iQ ?_ ?_ | refine iV ?_ ?_) <;> intro _ | refine And.intro (by omega) ?_ | fail)
  rintro w2 l2 X hX _ _
  refine vAppend_ss hX (h1.later l2).mS (by omega) l2.size ?_
  intro v3 w3 ho3 hg3 _
  have l13 := l2.appended hX (Nat.le_refl _) hg3
  have hL := Sl.of_own ho3
  have hLn : (d ++ m).length = d.length + m.length := List.length_append
  have hZ : StZ (d ++ m) := fun s hs => by
    rcases List.mem_append.1 hs with hs | hs
    · exact h.dZ s hs
    · exact h.mZ s hs
  have hL : StS w3 v3 (d ++ m) := hL
  have hOk : ScOk d m = ((∀ x ∈ d ++ m, NmOk x) ∧ (d ++ m).Pairwise (fun x y => x ≠ y) ∧ 1 ≤ d.length ∧ d.length ≤ 6 ∧ m.length ≤ 4) := rfl
  generalize d ++ m = L at *
  obtain ⟨o3, c3, rfl⟩ := Sl.slice hL
  rw [List.length_map] at hL ⊢
  clear hX ho3 hg3
  repeat' (first | (simp (disch := omega) only [push_cast, ↓reduceIte, zA, zG, zB, zH, zI, zC, zJ, zK, zL, zD, zE, zF, zM, zN, zO, zP, zQ, reduceCtorEq, not_true_eq_false, not_false_eq_true]) | (first | refine iE ?_ ?_ | refine iD ?_ ?_ | refine iQ ?_ ?_ | refine iV ?_ ?_) <;> intro _ | refine And.intro (by omega) ?_ | refine drawn_q ?_ | fail)
  refine vc_loop W55_0 (fun i : Nat => [(2, .bool false), (4, .int .i64 (i : Int))])
    (fun i w' => i ≤ L.length ∧ Later w3 w' ∧ (∀ j (h : j < L.length), j < i → NmOk L[j]) ∧ (L.take i).Pairwise (fun x y => x ≠ y)) (fun i => L.length - i) 0 (by decide) ?_ ?_ ?_
  · simp (disch := omega) only [push_cast, ↓reduceIte, zA, zG, zB, zH, zI, zC, zJ, zK, zL, zD, zE, zF, zM, zN, zO, zP, zQ, reduceCtorEq, not_true_eq_false, not_false_eq_true]
  · exact ⟨by omega, Later.refl _, fun j _ hj => absurd hj (Nat.not_lt_zero _), by simp⟩
  rintro i uu w4 ⟨hi, l4, hA, hP⟩
  have l04 := (l1.trans l13).trans l4
  by_cases hlt : i < L.length
  · cases o3 with
    | none => have := (Sl.len hL).2.2.2 rfl; simp at this; rw [this.1] at hlt; simp at hlt
    | some a =>
    have hc := StS.atS (Sl.later hL l4) hlt
    repeat' (first | (simp (disch := omega) only [push_cast, ↓reduceIte, zA, zG, zB, zH, zI, zC, zJ, zK, zL, zD, zE, zF, zM, zN, zO, zP, zQ, reduceCtorEq, not_true_eq_false, not_false_eq_true, hc]) | (first | refine iE ?_ ?_ | refine iD ?_ ?_ | refine iQ ?_ ?_ | refine iV ?_ ?_) <;> intro _ | refine And.intro (by omega) ?_ | refine drawn_q ?_ | fail)
    refine (dname_c L[i] w4 (hZ _ (List.getElem_mem _))).mono ?_
    rintro _ w5 ⟨rfl, l5⟩
    by_cases hn : NmOk L[i]
    · rw [decide_eq_true hn]
      repeat' (first | (simp (disch := omega) only [push_cast, ↓reduceIte, zA, zG, zB, zH, zI, zC, zJ, zK, zL, zD, zE, zF, zM, zN, zO, zP, zQ, reduceCtorEq, not_true_eq_false, not_false_eq_true]) | (first | refine iE ?_ ?_ | refine iD ?_ ?_ | refine iQ ?_ ?_ | refine iV ?_ ?_) <;> intro _ | refine And.intro (by omega) ?_ | refine drawn_q ?_ | fail)
      refine vc_loop W55_1 (fun i : Nat => [(2, .bool false), (6, .int .i64 (i : Int))])
        (fun k w' => k ≤ i ∧ Later w5 w' ∧ (∀ j (h : j < L.length), j < k → L[j] ≠ L[i])) (fun k => i - k) 0 (by decide) ?_ ?_ ?_
      · simp (disch := omega) only [push_cast, ↓reduceIte, zA, zG, zB, zH, zI, zC, zJ, zK, zL, zD, zE, zF, zM, zN, zO, zP, zQ, reduceCtorEq, not_true_eq_false, not_false_eq_true]
      · exact ⟨by omega, Later.refl _, fun j _ hj => absurd hj (Nat.not_lt_zero _)⟩
      rintro k uu2 w6 ⟨hk, l6, hB⟩
      have l46 := l5.trans l6
      by_cases hki : k < i
      · have c1 := StS.atS (Sl.later hL (l4.trans l46)) (show k < L.length by omega)
        have c2 := StS.atS (Sl.later hL (l4.trans l46)) hlt
        by_cases he : L[k] = L[i]
        · have hno : decide (ScOk d m) = false := decide_eq_false fun h => by
            rw [hOk] at h
            exact List.pairwise_iff_getElem.1 h.2.1 k i (by omega) hlt hki he
          repeat' (first | (simp (disch := omega) only [push_cast, ↓reduceIte, zA, zG, zB, zH, zI, zC, zJ, zK, zL, zD, zE, zF, zM, zN, zO, zP, zQ, reduceCtorEq, not_true_eq_false, not_false_eq_true, c1, c2, he, decide_true]) | (first | refine iE ?_ ?_ | refine iD ?_ ?_ | refine iQ ?_ ?_ | refine iV ?_ ?_) <;> intro _ | refine And.intro (by omega) ?_ | refine drawn_q ?_ | fail)
          intro w7 l7
          repeat' (first | (simp (disch := omega) only [push_cast, ↓reduceIte, zA, zG, zB, zH, zI, zC, zJ, zK, zL, zD, zE, zF, zM, zN, zO, zP, zQ, reduceCtorEq, not_true_eq_false, not_false_eq_true]) | (first | refine iE ?_ ?_ | refine iD ?_ ?_ | refine iQ ?_ ?_ | refine iV ?_ ?_) <;> intro _ | refine And.intro (by omega) ?_ | refine drawn_q ?_ | fail)
          first | exact ⟨by rw [hno], ((l04.trans l46).trans l7)⟩ | exact ((l04.trans l46).trans l7)
        · repeat' (first | (simp (disch := omega) only [push_cast, ↓reduceIte, zA, zG, zB, zH, zI, zC, zJ, zK, zL, zD, zE, zF, zM, zN, zO, zP, zQ, reduceCtorEq, not_true_eq_false, not_false_eq_true, c1, c2, he, decide_false]) | (first | refine iE ?_ ?_ | refine iD ?_ ?_ | refine iQ ?_ ?_ | refine iV ?_ ?_) <;> intro _ | refine And.intro (by omega) ?_ | refine drawn_q ?_ | fail)
          intro w7 l7
          repeat' (first | (simp (disch := omega) only [push_cast, ↓reduceIte, zA, zG, zB, zH, zI, zC, zJ, zK, zL, zD, zE, zF, zM, zN, zO, zP, zQ, reduceCtorEq, not_true_eq_false, not_false_eq_true]) | (first | refine iE ?_ ?_ | refine iD ?_ ?_ | refine iQ ?_ ?_ | refine iV ?_ ?_) <;> intro _ | refine And.intro (by omega) ?_ | refine drawn_q ?_ | fail)
          refine ⟨rfl, k + 1, by simp (disch := omega) only [push_cast, ↓reduceIte, zA, zG, zB, zH, zI, zC, zJ, zK, zL, zD, zE, zF, zM, zN, zO, zP, zQ, reduceCtorEq, not_true_eq_false, not_false_eq_true], ⟨by omega, l6.trans l7, fun j hj hjk => ?_⟩, by dsimp only; omega⟩
          by_cases h : j < k
          · exact hB j hj h
          · have : j = k := by omega
            subst this
            exact he
      · have hki' : k = i := by omega
        subst hki'
        repeat' (first | (simp (disch := omega) only [push_cast, ↓reduceIte, zA, zG, zB, zH, zI, zC, zJ, zK, zL, zD, zE, zF, zM, zN, zO, zP, zQ, reduceCtorEq, not_true_eq_false, not_false_eq_true]) | (first | refine iE ?_ ?_ | refine iD ?_ ?_ | refine iQ ?_ ?_ | refine iV ?_ ?_) <;> intro _ | refine And.intro (by omega) ?_ | refine drawn_q ?_ | fail)
        refine ⟨rfl, k + 1, by simp (disch := omega) only [push_cast, ↓reduceIte, zA, zG, zB, zH, zI, zC, zJ, zK, zL, zD, zE, zF, zM, zN, zO, zP, zQ, reduceCtorEq, not_true_eq_false, not_false_eq_true], ⟨by omega, l4.trans l46, fun j hj hjk => ?_, ok_step hlt hP hB⟩, by dsimp only; omega⟩
        by_cases h : j < k
        · exact hA j hj h
        · have : j = k := by omega
          subst this
          exact hn
    · have hno : decide (ScOk d m) = false := decide_eq_false fun h => by
        rw [hOk] at h
        exact hn (h.1 _ (List.getElem_mem _))
      rw [decide_eq_false hn]
      repeat' (first | (simp (disch := omega) only [push_cast, ↓reduceIte, zA, zG, zB, zH, zI, zC, zJ, zK, zL, zD, zE, zF, zM, zN, zO, zP, zQ, reduceCtorEq, not_true_eq_false, not_false_eq_true]) | (first | refine iE ?_ ?_ | refine iD ?_ ?_ | refine iQ ?_ ?_ | refine iV ?_ ?_) <;> intro _ | refine And.intro (by omega) ?_ | refine drawn_q ?_ | fail)
      first | exact ⟨by rw [hno], (l04.trans l5)⟩ | exact (l04.trans l5)
  · have hd : decide (ScOk d m) = decide (1 ≤ d.length ∧ d.length ≤ 6 ∧ m.length ≤ 4) := by
      refine decide_eq_decide.2 ?_
      rw [hOk]
      refine ⟨fun h => h.2.2, fun h => ⟨fun x hx => ?_, ?_, h⟩⟩
      · obtain ⟨j, hj, rfl⟩ := List.getElem_of_mem hx
        exact hA j hj (by omega)
      · rw [List.take_of_length_le (by omega)] at hP
        exact hP
    obtain ⟨a0, a1, _⟩ := F w4 (l13.trans l4)
    rw [hdv] at a0
    rw [hmv] at a1
    rw [hd]
    by_cases h1 : 1 ≤ d.length
    · by_cases h2 : d.length ≤ 6
      · by_cases h3 : m.length ≤ 4
        · repeat' (first | (simp (disch := omega) only [push_cast, ↓reduceIte, zA, zG, zB, zH, zI, zC, zJ, zK, zL, zD, zE, zF, zM, zN, zO, zP, zQ, reduceCtorEq, not_true_eq_false, not_false_eq_true, a0, a1, addr_add_eq, Nat.zero_add]) | (first | refine iE ?_ ?_ | refine iD ?_ ?_ | refine iQ ?_ ?_ | refine iV ?_ ?_) <;> intro _ | refine And.intro (by omega) ?_ | refine drawn_q ?_ | fail)
          first | exact ⟨congrArg Value.bool ((decide_eq_true (by omega)).trans (decide_eq_true (by omega)).symm), l04⟩ | exact l04
        · repeat' (first | (simp (disch := omega) only [push_cast, ↓reduceIte, zA, zG, zB, zH, zI, zC, zJ, zK, zL, zD, zE, zF, zM, zN, zO, zP, zQ, reduceCtorEq, not_true_eq_false, not_false_eq_true, a0, a1, addr_add_eq, Nat.zero_add]) | (first | refine iE ?_ ?_ | refine iD ?_ ?_ | refine iQ ?_ ?_ | refine iV ?_ ?_) <;> intro _ | refine And.intro (by omega) ?_ | refine drawn_q ?_ | fail)
          first | exact ⟨congrArg Value.bool ((decide_eq_false (by omega)).trans (decide_eq_false (by omega)).symm), l04⟩ | exact l04
      · repeat' (first | (simp (disch := omega) only [push_cast, ↓reduceIte, zA, zG, zB, zH, zI, zC, zJ, zK, zL, zD, zE, zF, zM, zN, zO, zP, zQ, reduceCtorEq, not_true_eq_false, not_false_eq_true, a0, a1, addr_add_eq, Nat.zero_add]) | (first | refine iE ?_ ?_ | refine iD ?_ ?_ | refine iQ ?_ ?_ | refine iV ?_ ?_) <;> intro _ | refine And.intro (by omega) ?_ | refine drawn_q ?_ | fail)
        first | exact ⟨congrArg Value.bool ((decide_eq_false (by omega)).trans (decide_eq_false (by omega)).symm), congrArg Value.bool (decide_eq_false (by omega)).symm, l04⟩ | exact ⟨congrArg Value.bool (decide_eq_false (by omega)).symm, l04⟩ | exact l04
    · repeat' (first | (simp (disch := omega) only [push_cast, ↓reduceIte, zA, zG, zB, zH, zI, zC, zJ, zK, zL, zD, zE, zF, zM, zN, zO, zP, zQ, reduceCtorEq, not_true_eq_false, not_false_eq_true, a0, a1, addr_add_eq, Nat.zero_add]) | (first | refine iE ?_ ?_ | refine iD ?_ ?_ | refine iQ ?_ ?_ | refine iV ?_ ?_) <;> intro _ | refine And.intro (by omega) ?_ | refine drawn_q ?_ | fail)
      first | exact ⟨congrArg Value.bool ((decide_eq_false (by omega)).trans (decide_eq_false (by omega)).symm), l04⟩ | exact ⟨congrArg Value.bool (decide_eq_false (by omega)).symm, l04⟩ | trace_state
end Go.Proofs.Ytnofalhkapmcnaa
end
section
set_option linter.unusedSimpArgs false
namespace Go.Proofs.Ytnofalhkapmcnaa
open Go.Vc Go.Key
set_option maxRecDepth 100000
theorem OwnS.st {w : World} {B : Nat} {v : Value} {l : List ByteArray} (h : OwnS w B v l) : StS w v l := by
  have := SlN.of_own h
  unfold StS Sl
  rw [List.length_map]
  exact this
end Go.Proofs.Ytnofalhkapmcnaa
end
section
namespace Go.Vc
open Go Go.Key
abbrev I64 (n : Int) : Prop := -9223372036854775808 ≤ n ∧ n ≤ 9223372036854775807
abbrev Bz : Nat := 140737488351232
/-- A term. -/
structure TD where
  f : Int
  m : ByteArray
def tdC (t : TD) : List Value := [.int .i64 t.f, .string t.m]
structure TD.Ok (t : TD) : Prop where
  f : I64 t.f
  m : t.m.size ≤ Bz
/-- A condition on a term. -/
structure HD where
  t : TD
  sign : Int
  value : Int
def hdC (h : HD) : List Value := [.int .i64 h.t.f, .string h.t.m, .int .i64 h.sign, .int .i64 h.value]
structure HD.Ok (h : HD) : Prop where
  t : h.t.Ok
  sign : I64 h.sign
  value : I64 h.value
/-- A query, and where its lists lie. -/
structure QD where
  tv : Value
  tl : List TD
  fr : Int
  to : Int
  ev : Int
  bv : Value
  bl : List ByteArray
  wh : FT
  hv : Value
  hl : List HD
  od : Int
  lm : Int
def qdC (q : QD) : List Value := [q.tv, .int .i64 q.fr, .int .i64 q.to, .int .i64 q.ev, q.bv, .int .i64 q.wh.op, .string q.wh.dim, .string q.wh.value, q.wh.kv, q.hv, .int .i64 q.od, .int .i64 q.lm]
structure QD.Ok (w : World) (q : QD) : Prop where
  tv : RecS tdC 2 w q.tv q.tl
  tl : ∀ t ∈ q.tl, t.Ok
  fr : I64 q.fr
  to : I64 q.to
  ev : I64 q.ev
  bv : Sl w q.bv (q.bl.map Value.string)
  bl : ∀ s ∈ q.bl, s.size ≤ Bz
  wh : q.wh.Ok w
  hv : RecS hdC 4 w q.hv q.hl
  hl : ∀ h ∈ q.hl, h.Ok
  od : I64 q.od
  lm : I64 q.lm
theorem QD.Ok.later {w w' : World} {q : QD} (h : q.Ok w) (hl : Later w w') : q.Ok w' := ⟨h.tv.later hl, h.tl, h.fr, h.to, h.ev, Sl.later h.bv hl, h.bl, h.wh.later hl, h.hv.later hl, h.hl, h.od, h.lm⟩
/-- A tier, or a projection: two numbers and dimensions. -/
structure CD where
  a : Int
  g : Int
  dv : Value
  dl : List ByteArray
/-- A policy. -/
structure PD where
  tv : Value
  tl : List CD
  pv : Value
  pl : List CD
  hz : Int
/-- A file of rows. -/
structure SD where
  name : ByteArray
  tier : Int
  proj : Int
  rows : Int
/-- A manifest. -/
structure MD where
  dv : Value
  dl : List ByteArray
  mv : Value
  ml : List ByteArray
  p : PD
  now : Int
  ev : Value
  el : List Int
  cnt : Int
  sv : Value
  sl : List Int
  fv : Value
  fl : List SD
  jn : ByteArray
  nx : Int
end Go.Vc
namespace Go.Proofs.Ytnofalhkapmcnaa
open Go.Vc Go.RowKit Go.ChangeShapes Go.Key
set_option maxRecDepth 100000
section
variable {H : Type} {enc : TypeId × Value → H} {w : World} {sp : Nat → Bool} {hd : Bool} {M : Nat}
theorem z_int : OZ M enc Try.prog w sp hd 3 (fun cs => ∃ n : Int, cs = [.int .i64 n] ∧ I64 n) := oz_i64 Try.underlying3
theorem z_str : OZ M enc Try.prog w sp hd 9 (fun cs => ∃ s : ByteArray, cs = [.string s] ∧ s.size ≤ Bz) := oz_string Try.underlying9
theorem z_strs : OZ M enc Try.prog w sp hd 22 (fun cs => ∃ (v : Value) (l : List ByteArray), cs = [v] ∧ StS w v l ∧ ∀ s ∈ l, s.size ≤ Bz) :=
  (oz_slice (en := fun s => [Value.string s]) (Q := fun s => s.size ≤ Bz) Try.underlying22 (by kernel_rfl) z_str).mono fun cs ⟨v, l, h1, h2, h3, _⟩ => ⟨v, l, h1, sl_of_rec h2, h3⟩
theorem z_term : OZ M enc Try.prog w sp hd 63 (fun cs => ∃ x : TD, cs = tdC x ∧ x.Ok) :=
  (oz_struct (S := 2) Try.underlying63 (by kernel_rfl)).mono fun cs ⟨hl, hf⟩ => by
    match cs, hl with
    | [c0, c1], _ =>
      obtain ⟨k, hk, wk⟩ := hf 0 _ 1 _ rfl (by kernel_rfl) (fun _ => oz_i64 Try.underlying61)
      obtain ⟨m, hm, wm⟩ := hf 1 _ 1 _ rfl (by kernel_rfl) (fun _ => z_str)
      obtain rfl : c0 = _ := (List.cons.inj hk).1
      obtain rfl : c1 = _ := (List.cons.inj hm).1
      exact ⟨⟨k, m⟩, rfl, wk, wm⟩
theorem z_having : OZ M enc Try.prog w sp hd 146 (fun cs => ∃ x : HD, cs = hdC x ∧ x.Ok) :=
  (oz_struct (S := 4) Try.underlying146 (by kernel_rfl)).mono fun cs ⟨hl, hf⟩ => by
    match cs, hl with
    | [c0, c1, c2, c3], _ =>
      obtain ⟨t, ht, wt⟩ := hf 0 _ 2 _ rfl (by kernel_rfl) (fun _ => z_term)
      obtain ⟨s, hs, ws⟩ := hf 1 _ 1 _ rfl (by kernel_rfl) (fun _ => z_int)
      obtain ⟨v, hv, wv⟩ := hf 2 _ 1 _ rfl (by kernel_rfl) (fun _ => z_int)
      have h2 : [c0, c1] = tdC t := ht
      obtain rfl : c0 = _ := (List.cons.inj h2).1
      obtain rfl : c1 = _ := (List.cons.inj (List.cons.inj h2).2).1
      obtain rfl : c2 = _ := (List.cons.inj hs).1
      obtain rfl : c3 = _ := (List.cons.inj hv).1
      exact ⟨⟨t, s, v⟩, rfl, wt, ws, wv⟩
theorem z_query : OZ M enc Try.prog w sp hd 42 (fun cs => ∃ q : QD, cs = qdC q ∧ q.Ok w) :=
  (oz_struct (S := 12) Try.underlying42 (by kernel_rfl)).mono fun cs ⟨hl, hf⟩ => by
    match cs, hl with
    | [c0, c1, c2, c3, c4, c5, c6, c7, c8, c9, c10, c11], _ =>
      obtain ⟨tv, tl, h0, w0, v0, _⟩ := hf 0 _ 1 _ rfl (by kernel_rfl) (fun _ => oz_slice (en := tdC) (Q := fun x => x.Ok) (s := 2) Try.underlying35 (by kernel_rfl) z_term)
      obtain ⟨fr, h1, w1⟩ := hf 1 _ 1 _ rfl (by kernel_rfl) (fun _ => z_int)
      obtain ⟨to, h2, w2⟩ := hf 2 _ 1 _ rfl (by kernel_rfl) (fun _ => z_int)
      obtain ⟨ev, h3, w3⟩ := hf 3 _ 1 _ rfl (by kernel_rfl) (fun _ => z_int)
      obtain ⟨bv, bl, h4, w4, v4⟩ := hf 4 _ 1 _ rfl (by kernel_rfl) (fun _ => z_strs)
      obtain ⟨f, h5, w5⟩ := hf 5 _ 4 _ rfl (by kernel_rfl) (fun m => filter_at m)
      obtain ⟨hv, hl', h6, w6, v6, _⟩ := hf 6 _ 1 _ rfl (by kernel_rfl) (fun _ => oz_slice (en := hdC) (Q := fun x => x.Ok) (s := 4) Try.underlying40 (by kernel_rfl) z_having)
      obtain ⟨od, h7, w7⟩ := hf 7 _ 1 _ rfl (by kernel_rfl) (fun _ => z_int)
      obtain ⟨lm, h8, w8⟩ := hf 8 _ 1 _ rfl (by kernel_rfl) (fun _ => z_int)
      have h5 : [c5, c6, c7, c8] = ftC f := h5
      obtain rfl : c0 = _ := (List.cons.inj h0).1
      obtain rfl : c1 = _ := (List.cons.inj h1).1
      obtain rfl : c2 = _ := (List.cons.inj h2).1
      obtain rfl : c3 = _ := (List.cons.inj h3).1
      obtain rfl : c4 = _ := (List.cons.inj h4).1
      obtain rfl : c5 = _ := (List.cons.inj h5).1
      obtain rfl : c6 = _ := (List.cons.inj (List.cons.inj h5).2).1
      obtain rfl : c7 = _ := (List.cons.inj (List.cons.inj (List.cons.inj h5).2).2).1
      obtain rfl : c8 = _ := (List.cons.inj (List.cons.inj (List.cons.inj (List.cons.inj h5).2).2).2).1
      obtain rfl : c9 = _ := (List.cons.inj h6).1
      obtain rfl : c10 = _ := (List.cons.inj h7).1
      obtain rfl : c11 = _ := (List.cons.inj h8).1
      exact ⟨⟨c0, tl, fr, to, ev, c4, bl, f, c9, hl', od, lm⟩, rfl, w0, v0, w1, w2, w3, w4, v4, w5, w6, v6, w7, w8⟩
theorem z_schema : OZ M enc Try.prog w sp hd 24 (fun cs => ∃ (dv mv : Value) (d m : List ByteArray), cs = [dv, mv] ∧ StS w dv d ∧ (∀ s ∈ d, s.size ≤ Bz) ∧ StS w mv m ∧ ∀ s ∈ m, s.size ≤ Bz) :=
  (oz_struct (S := 2) Try.underlying24 (by kernel_rfl)).mono fun cs ⟨hl, hf⟩ => by
    match cs, hl with
    | [c0, c1], _ =>
      obtain ⟨v, l, h0, w0, v0⟩ := hf 0 _ 1 _ rfl (by kernel_rfl) (fun _ => z_strs)
      obtain ⟨v', l', h1, w1, v1⟩ := hf 1 _ 1 _ rfl (by kernel_rfl) (fun _ => z_strs)
      obtain rfl : c0 = _ := (List.cons.inj h0).1
      obtain rfl : c1 = _ := (List.cons.inj h1).1
      exact ⟨c0, c1, l, l', rfl, w0, v0, w1, v1⟩
end
end Go.Proofs.Ytnofalhkapmcnaa
end
section
set_option linter.unusedSimpArgs false
namespace Go.Proofs.Ytnofalhkapmcnaa
open Go.Vc Go.Key
set_option maxRecDepth 100000
/-- Is a name in a list? -/
def inL (x : ByteArray) (l : List ByteArray) : Bool := l.any fun y => decide (y = x)
theorem inL_iff {x : ByteArray} {l : List ByteArray} : inL x l = true ↔ x ∈ l := by
  unfold inL
  rw [List.any_eq_true]
  constructor
  · rintro ⟨y, hy, h⟩
    rw [decide_eq_true_eq] at h
    exact h ▸ hy
  · intro h; exact ⟨x, h, decide_eq_true rfl⟩
/-- May a term be? -/
def tmOk (t : TD) : Bool := decide (0 ≤ t.f) && decide (t.f ≤ 3) && (decide (t.f = 0) == decide (t.m = ⟨#[]⟩))
end Go.Proofs.Ytnofalhkapmcnaa
end
section
set_option linter.unusedSimpArgs false
namespace Go.Proofs.Ytnofalhkapmcnaa
open Go.Vc Go.Key
set_option maxRecDepth 100000
def hvOk (h : HD) : Bool := tmOk h.t && decide (-1 ≤ h.sign) && decide (h.sign ≤ 1) && decide (-4611686018427387904 ≤ h.value) && decide (h.value ≤ 4611686018427387904)
def whOk (f : FT) : Bool := if f.op = 0 then decide (f.kids.length = 0) && decide (f.dim = ⟨#[]⟩) && decide (f.value = ⟨#[]⟩) else f.form 30
def szOk (q : QD) : Bool := decide (1 ≤ q.tl.length) && decide (q.tl.length ≤ 8) && decide (q.bl.length ≤ 6) && decide (q.hl.length ≤ 8)
def shOk (q : QD) : Bool := szOk q && q.tl.all tmOk && q.hl.all hvOk && whOk q.wh
theorem qdAt {w : World} {k : Nat} {q : QD} (h : Blk w k (qdC q).toArray 42) : w.cell? ⟨k, 0, none⟩ = some q.tv ∧ w.cell? ⟨k, 1, none⟩ = some (.int .i64 q.fr) ∧ w.cell? ⟨k, 2, none⟩ = some (.int .i64 q.to) ∧ w.cell? ⟨k, 3, none⟩ = some (.int .i64 q.ev) ∧ w.cell? ⟨k, 4, none⟩ = some q.bv ∧ w.cell? ⟨k, 5, none⟩ = some (.int .i64 q.wh.op) ∧ w.cell? ⟨k, 6, none⟩ = some (.string q.wh.dim) ∧ w.cell? ⟨k, 7, none⟩ = some (.string q.wh.value) ∧ w.cell? ⟨k, 8, none⟩ = some q.wh.kv ∧ w.cell? ⟨k, 9, none⟩ = some q.hv ∧ w.cell? ⟨k, 10, none⟩ = some (.int .i64 q.od) ∧ w.cell? ⟨k, 11, none⟩ = some (.int .i64 q.lm) :=
  ⟨h.cell 0, h.cell 1, h.cell 2, h.cell 3, h.cell 4, h.cell 5, h.cell 6, h.cell 7, h.cell 8, h.cell 9, h.cell 10, h.cell 11⟩
theorem qdLater {w w' : World} {k : Nat} {q : QD} (h : Blk w k (qdC q).toArray 42) (hl : Later w w') : Blk w' k (qdC q).toArray 42 := h.chg (Chg.of_later (ks := []) hl) (by simp)
theorem vStore_hd {K : Value → World → Prop} (h : HD) (w : World) (hK : K undef (w.alloc (.cells (hdC h).toArray 146))) :
    vStoreD Try.prog 146 (some 4) (.pointer (some ⟨w.heap.size, 0, none⟩)) (.agg (hdC h).toArray) K (w.alloc (.cells #[.int .i64 0, .string ⟨#[]⟩, .int .i64 0, .int .i64 0] 146)) :=
  vStore_new rfl rfl (fun u hu => by
    simp only [hdC, List.mem_toArray, List.mem_cons, List.not_mem_nil, or_false] at hu
    rcases hu with rfl | rfl | rfl | rfl <;> rfl) hK
theorem tdC_len (t : TD) : (tdC t).length = 2 := rfl
theorem hdC_len (h : HD) : (hdC h).length = 4 := rfl
end Go.Proofs.Ytnofalhkapmcnaa
end
section
set_option linter.unusedSimpArgs false
namespace Go.Proofs.Ytnofalhkapmcnaa
open Go.Vc Go.Key
set_option maxRecDepth 100000
def mtOk (m : List ByteArray) (t : TD) : Bool := decide (t.f = 0) || inL t.m m
def nsOk (d m : List ByteArray) (q : QD) : Bool := (q.bl ++ q.wh.dims).all (fun s => inL s d) && q.tl.all (mtOk m) && q.hl.all (fun h => mtOk m h.t)
end Go.Proofs.Ytnofalhkapmcnaa
end
section
set_option linter.unusedSimpArgs false
namespace Go.Proofs.Ytnofalhkapmcnaa
open Go.Vc Go.Key
set_option maxRecDepth 100000
def grOk (g : Int) : Bool := decide (1 ≤ g) && decide (g ≤ 1048576)
def tyNum (q : QD) : Prop := 0 ≤ q.fr ∧ q.fr < q.to ∧ q.to ≤ 1099511627776 ∧ -(q.tl.length : Int) ≤ q.od ∧ q.od ≤ (q.tl.length : Int) ∧ 0 ≤ q.lm ∧ q.lm ≤ 1000
instance (q : QD) : Decidable (tyNum q) := inferInstanceAs (Decidable (_ ∧ _))
def evOk (q : QD) : Bool := decide (q.ev = 0) || grOk q.ev
def tpOk (q : QD) : Bool := decide (q.bl.Pairwise (fun x y => x ≠ y)) && q.wh.vals.all (fun s => decide (VlOk s)) && evOk q && decide (tyNum q)
end Go.Proofs.Ytnofalhkapmcnaa
end
section
set_option linter.unusedSimpArgs false
namespace Go.Proofs.Ytnofalhkapmcnaa
open Go.Vc Go.Key
set_option maxRecDepth 100000
def ckQ (d m : List ByteArray) (q : QD) : Int := if shOk q = false then 221 else if nsOk d m q = false then 231 else if tpOk q = false then 232 else 0
end Go.Proofs.Ytnofalhkapmcnaa
end
section
set_option linter.unusedSimpArgs false
namespace Go.Proofs.Ytnofalhkapmcnaa
open Go.Vc Go.Key
set_option maxRecDepth 100000
def f23 (d m : List ByteArray) (q : QD) : Bool := decide (F10 d) && decide (F10 m) && decide (F10 q.bl) && decide (q.tl.length ≤ 30) && decide (q.hl.length ≤ 30) && decide (q.wh.prt 300 < 300) && decide (ScOk d m) && decide (q.wh.deep ≤ 60)
set_option maxHeartbeats 2000000 in
theorem fits23_c (dv mv : Value) (d m : List ByteArray) (q : QD) (w : World) (h : ScIs w dv mv d m) (hq : q.Ok w) : FnC Try.prog 27 #[scV dv mv, .agg (qdC q).toArray] w fun v w' => v = .bool (f23 d m q) ∧ Later w w' := by
  have esc : scV dv mv = .agg #[dv, mv] := rfl
  obtain ⟨to, tc, htv, ht1, ht2⟩ := RecS.slice hq.tv
  obtain ⟨ho, hc, hhv, hh1, hh2⟩ := RecS.slice hq.hv
  rw [esc]
  refine enter27 _ _ ?_
  unfold B27
  have eca : (Value.agg (qdC q).toArray).cells = (qdC q).toArray := rfl
  have ecb : (Value.agg #[dv, mv]).cells = #[dv, mv] := rfl
  obtain ⟨l1, s1, F⟩ := box2 w dv mv 24
  have B2 := Blk.new (w.alloc (.cells #[dv, mv] 24)) (qdC q).toArray 42
  have l2 := later_alloc (w.alloc (.cells #[dv, mv] 24)) (.cells (qdC q).toArray 42)
  rw [s1] at B2
  repeat' (first | (simp (disch := omega) only [push_cast, ↓reduceIte, zA, zG, zB, zH, zI, zC, zJ, zK, zL, zD, zE, zF, zM, zN, zO, zP, zQ, reduceCtorEq, not_true_eq_false, not_false_eq_true, eca, ecb, s1]) | (first | refine iE ?_ ?_ | refine iD ?_ ?_ | refine iQ ?_ ?_ | refine iV ?_ ?_) <;> intro _ | refine And.intro (by omega) ?_ | fail)
  have l12 := l1.trans l2
  obtain ⟨f0, f1, f2⟩ := F _ l2
  clear F
  generalize (w.alloc (.cells #[dv, mv] 24)).alloc (.cells (qdC q).toArray 42) = w1 at *
  generalize hkf : w.heap.size = kf at *
  have h1 := h.later l12
  have q1 := hq.later l12
  have hbz : ∀ s ∈ q.bl, s.size ≤ 9223372036854775807 := fun s hs => Nat.le_trans (hq.bl s hs) (by unfold Bz; omega)
  obtain ⟨a0, a1, a2, a3, a4, b5, b6, b7, b8, a9, _⟩ := qdAt B2
  have fw : cellsAt w1 ⟨kf + 1, 5, none⟩ 4 = some (ftC q.wh) := by
    refine cellsAt_of 4 _ _ rfl fun i x hx => ?_
    rw [addr_add_eq]
    match i, hx with
    | 0, hx => cases hx; exact b5
    | 1, hx => cases hx; exact b6
    | 2, hx => cases hx; exact b7
    | 3, hx => cases hx; exact b8
    | n + 4, hx => exact absurd hx (by simp [ftC])
  rw [htv] at a0
  rw [hhv] at a9
  repeat' (first | (simp (disch := omega) only [push_cast, ↓reduceIte, zA, zG, zB, zH, zI, zC, zJ, zK, zL, zD, zE, zF, zM, zN, zO, zP, zQ, reduceCtorEq, not_true_eq_false, not_false_eq_true, f0, addr_add_eq, Nat.zero_add]) | (first | refine iE ?_ ?_ | refine iD ?_ ?_ | refine iQ ?_ ?_ | refine iV ?_ ?_) <;> intro _ | refine And.intro (by omega) ?_ | refine drawn_q ?_ | fail)
  refine (fits10_c dv d w1 h1.dS h1.dZ).mono ?_
  rintro _ w0 ⟨rfl, h0⟩; obtain rfl := h0.symm
  repeat' (first | (simp (disch := omega) only [push_cast, ↓reduceIte, zA, zG, zB, zH, zI, zC, zJ, zK, zL, zD, zE, zF, zM, zN, zO, zP, zQ, reduceCtorEq, not_true_eq_false, not_false_eq_true, f1, addr_add_eq, Nat.zero_add]) | (first | refine iE ?_ ?_ | refine iD ?_ ?_ | refine iQ ?_ ?_ | refine iV ?_ ?_) <;> intro _ | refine And.intro (by omega) ?_ | refine drawn_q ?_ | fail)
  refine (fits10_c mv m w1 h1.mS h1.mZ).mono ?_
  rintro _ w0 ⟨rfl, h0⟩; obtain rfl := h0.symm
  repeat' (first | (simp (disch := omega) only [push_cast, ↓reduceIte, zA, zG, zB, zH, zI, zC, zJ, zK, zL, zD, zE, zF, zM, zN, zO, zP, zQ, reduceCtorEq, not_true_eq_false, not_false_eq_true, a4, addr_add_eq, Nat.zero_add]) | (first | refine iE ?_ ?_ | refine iD ?_ ?_ | refine iQ ?_ ?_ | refine iV ?_ ?_) <;> intro _ | refine And.intro (by omega) ?_ | refine drawn_q ?_ | fail)
  refine (fits10_c q.bv q.bl w1 q1.bv hbz).mono ?_
  rintro _ w0 ⟨rfl, h0⟩; obtain rfl := h0.symm
  by_cases k0 : F10 d
  case neg =>
    have e0 : decide (F10 d) = false := decide_eq_false k0
    have hf : f23 d m q = false := by unfold f23; rw [e0]; simp
    rw [hf]
    repeat' (first | (simp (disch := omega) only [push_cast, ↓reduceIte, zA, zG, zB, zH, zI, zC, zJ, zK, zL, zD, zE, zF, zM, zN, zO, zP, zQ, reduceCtorEq, not_true_eq_false, not_false_eq_true, e0, addr_add_eq, Nat.zero_add]) | (first | refine iE ?_ ?_ | refine iD ?_ ?_ | refine iQ ?_ ?_ | refine iV ?_ ?_) <;> intro _ | refine And.intro (by omega) ?_ | refine drawn_q ?_ | fail)
    first | exact ⟨rfl, l12⟩ | exact l12
  have e0 : decide (F10 d) = true := decide_eq_true k0
  by_cases k1 : F10 m
  case neg =>
    have e1 : decide (F10 m) = false := decide_eq_false k1
    have hf : f23 d m q = false := by unfold f23; rw [e1]; simp
    rw [hf]
    repeat' (first | (simp (disch := omega) only [push_cast, ↓reduceIte, zA, zG, zB, zH, zI, zC, zJ, zK, zL, zD, zE, zF, zM, zN, zO, zP, zQ, reduceCtorEq, not_true_eq_false, not_false_eq_true, e0, e1, addr_add_eq, Nat.zero_add]) | (first | refine iE ?_ ?_ | refine iD ?_ ?_ | refine iQ ?_ ?_ | refine iV ?_ ?_) <;> intro _ | refine And.intro (by omega) ?_ | refine drawn_q ?_ | fail)
    first | exact ⟨rfl, l12⟩ | exact l12
  have e1 : decide (F10 m) = true := decide_eq_true k1
  by_cases k2 : F10 q.bl
  case neg =>
    have e2 : decide (F10 q.bl) = false := decide_eq_false k2
    have hf : f23 d m q = false := by unfold f23; rw [e2]; simp
    rw [hf]
    repeat' (first | (simp (disch := omega) only [push_cast, ↓reduceIte, zA, zG, zB, zH, zI, zC, zJ, zK, zL, zD, zE, zF, zM, zN, zO, zP, zQ, reduceCtorEq, not_true_eq_false, not_false_eq_true, e0, e1, e2, addr_add_eq, Nat.zero_add]) | (first | refine iE ?_ ?_ | refine iD ?_ ?_ | refine iQ ?_ ?_ | refine iV ?_ ?_) <;> intro _ | refine And.intro (by omega) ?_ | refine drawn_q ?_ | fail)
    first | exact ⟨rfl, l12⟩ | exact l12
  have e2 : decide (F10 q.bl) = true := decide_eq_true k2
  by_cases k3 : q.tl.length ≤ 30
  case neg =>
    have e3 : decide (30 < (q.tl.length : Int)) = true := decide_eq_true (by omega)
    have hf : f23 d m q = false := by unfold f23; rw [decide_eq_false k3]; simp
    rw [hf]
    repeat' (first | (simp (disch := omega) only [push_cast, ↓reduceIte, zA, zG, zB, zH, zI, zC, zJ, zK, zL, zD, zE, zF, zM, zN, zO, zP, zQ, reduceCtorEq, not_true_eq_false, not_false_eq_true, e0, e1, e2, e3, a0, a9, addr_add_eq, Nat.zero_add]) | (first | refine iE ?_ ?_ | refine iD ?_ ?_ | refine iQ ?_ ?_ | refine iV ?_ ?_) <;> intro _ | refine And.intro (by omega) ?_ | refine drawn_q ?_ | fail)
    first | exact ⟨rfl, l12⟩ | exact l12
  have e3 : decide (30 < (q.tl.length : Int)) = false := decide_eq_false (by omega)
  by_cases k4 : q.hl.length ≤ 30
  case neg =>
    have e4 : decide (30 < (q.hl.length : Int)) = true := decide_eq_true (by omega)
    have hf : f23 d m q = false := by unfold f23; rw [decide_eq_false k4]; simp
    rw [hf]
    repeat' (first | (simp (disch := omega) only [push_cast, ↓reduceIte, zA, zG, zB, zH, zI, zC, zJ, zK, zL, zD, zE, zF, zM, zN, zO, zP, zQ, reduceCtorEq, not_true_eq_false, not_false_eq_true, e0, e1, e2, e3, e4, a0, a9, addr_add_eq, Nat.zero_add]) | (first | refine iE ?_ ?_ | refine iD ?_ ?_ | refine iQ ?_ ?_ | refine iV ?_ ?_) <;> intro _ | refine And.intro (by omega) ?_ | refine drawn_q ?_ | fail)
    first | exact ⟨rfl, l12⟩ | exact l12
  have e4 : decide (30 < (q.hl.length : Int)) = false := decide_eq_false (by omega)
  repeat' (first | (simp (disch := omega) only [push_cast, ↓reduceIte, zA, zG, zB, zH, zI, zC, zJ, zK, zL, zD, zE, zF, zM, zN, zO, zP, zQ, reduceCtorEq, not_true_eq_false, not_false_eq_true, e0, e1, e2, e3, e4, a0, a9, fw, addr_add_eq, Nat.zero_add]) | (first | refine iE ?_ ?_ | refine iD ?_ ?_ | refine iQ ?_ ?_ | refine iV ?_ ?_) <;> intro _ | refine And.intro (by omega) ?_ | refine drawn_q ?_ | fail)
  refine (parts_c q.wh 300 w1 (by omega) (by omega) q1.wh).mono ?_
  rintro _ w2 ⟨rfl, l3⟩
  by_cases k5 : q.wh.prt 300 < 300
  case neg =>
    have e5 : decide (300 ≤ q.wh.prt 300) = true := decide_eq_true (by omega)
    have hf : f23 d m q = false := by unfold f23; rw [decide_eq_false k5]; simp
    rw [hf]
    repeat' (first | (simp (disch := omega) only [push_cast, ↓reduceIte, zA, zG, zB, zH, zI, zC, zJ, zK, zL, zD, zE, zF, zM, zN, zO, zP, zQ, reduceCtorEq, not_true_eq_false, not_false_eq_true, e5]) | (first | refine iE ?_ ?_ | refine iD ?_ ?_ | refine iQ ?_ ?_ | refine iV ?_ ?_) <;> intro _ | refine And.intro (by omega) ?_ | refine drawn_q ?_ | fail)
    first | exact ⟨rfl, (l12.trans l3)⟩ | exact (l12.trans l3)
  have e5 : decide (300 ≤ q.wh.prt 300) = false := decide_eq_false (by omega)
  have hcn := FT.cnt_prt q.wh 300 k5
  have g2 : cellsAt w2 ⟨kf, 0, none⟩ 2 = some [dv, mv] := cellsAt_later l3 _ f2
  have hF : ∀ l : List ByteArray, F10 l → l.length ≤ 2000000 := fun l h => by
    exact Nat.le_trans h.1 (by omega)
  repeat' (first | (simp (disch := omega) only [push_cast, ↓reduceIte, zA, zG, zB, zH, zI, zC, zJ, zK, zL, zD, zE, zF, zM, zN, zO, zP, zQ, reduceCtorEq, not_true_eq_false, not_false_eq_true, e5, g2]) | (first | refine iE ?_ ?_ | refine iD ?_ ?_ | refine iQ ?_ ?_ | refine iV ?_ ?_) <;> intro _ | refine And.intro (by omega) ?_ | refine drawn_q ?_ | fail)
  refine (dschema_c dv mv d m w2 (h1.later l3) (hF d k0) (hF m k1)).mono ?_
  rintro _ w3 ⟨rfl, l4⟩
  have l34 := l3.trans l4
  have fw3 := cellsAt_later l34 _ fw
  repeat' (first | (simp (disch := omega) only [push_cast, ↓reduceIte, zA, zG, zB, zH, zI, zC, zJ, zK, zL, zD, zE, zF, zM, zN, zO, zP, zQ, reduceCtorEq, not_true_eq_false, not_false_eq_true, fw3, addr_add_eq, Nat.zero_add]) | (first | refine iE ?_ ?_ | refine iD ?_ ?_ | refine iQ ?_ ?_ | refine iV ?_ ?_) <;> intro _ | refine And.intro (by omega) ?_ | refine drawn_q ?_ | fail)
  refine (depth_c q.wh w3 (by omega) (q1.wh.later l34)).mono ?_
  rintro _ w4 ⟨rfl, l5⟩
  have hf : f23 d m q = (decide (ScOk d m) && decide (q.wh.deep ≤ 60)) := by
    unfold f23
    rw [e0, e1, e2, decide_eq_true k3, decide_eq_true k4, decide_eq_true k5]; simp
  rw [hf]
  have e6 : decide ((q.wh.deep : Int) ≤ 60) = decide (q.wh.deep ≤ 60) := by
    by_cases hh : q.wh.deep ≤ 60
    · rw [decide_eq_true hh, decide_eq_true (by omega)]
    · rw [decide_eq_false hh, decide_eq_false (by omega)]
  by_cases k7 : ScOk d m
  · have e7 : decide (ScOk d m) = true := decide_eq_true k7
    repeat' (first | (simp (disch := omega) only [push_cast, ↓reduceIte, zA, zG, zB, zH, zI, zC, zJ, zK, zL, zD, zE, zF, zM, zN, zO, zP, zQ, reduceCtorEq, not_true_eq_false, not_false_eq_true, e7, e6]) | (first | refine iE ?_ ?_ | refine iD ?_ ?_ | refine iQ ?_ ?_ | refine iV ?_ ?_) <;> intro _ | refine And.intro (by omega) ?_ | refine drawn_q ?_ | fail)
    first | exact ⟨(by simp), (l12.trans (l34.trans l5))⟩ | exact (l12.trans (l34.trans l5))
  · have e7 : decide (ScOk d m) = false := decide_eq_false k7
    repeat' (first | (simp (disch := omega) only [push_cast, ↓reduceIte, zA, zG, zB, zH, zI, zC, zJ, zK, zL, zD, zE, zF, zM, zN, zO, zP, zQ, reduceCtorEq, not_true_eq_false, not_false_eq_true, e7, e6]) | (first | refine iE ?_ ?_ | refine iD ?_ ?_ | refine iQ ?_ ?_ | refine iV ?_ ?_) <;> intro _ | refine And.intro (by omega) ?_ | refine drawn_q ?_ | fail)
    first | exact ⟨(by simp), (l12.trans (l34.trans l5))⟩ | exact (l12.trans (l34.trans l5))
end Go.Proofs.Ytnofalhkapmcnaa
end
section
set_option linter.unusedSimpArgs false
namespace Go.Proofs.Ytnofalhkapmcnaa
open Go.Vc Go.Key
set_option maxRecDepth 100000
def usedL (d : List ByteArray) (q : QD) : List ByteArray := d.filter fun s => inL s (q.bl ++ q.wh.dims)
end Go.Proofs.Ytnofalhkapmcnaa
end
section
namespace Go.Proofs.Ytnofalhkapmcnaa
open Go.Vc
set_option maxRecDepth 100000
variable (Q : Post) (ds : List Deferred) (σ : Env) (w : World)
/-! 30 columbary/typer.Used (params #[24, 42], results #[(.tmp 4)], 13 slots) -/
def r30_0 : List VOp :=
  [⟨some 2, .box 24 (.tmp 0), 0, none⟩,
   ⟨some 3, .box 42 (.tmp 1), 0, none⟩,
   ⟨some 4, .assign (.const (.slice none 0 0)), 22, none⟩]
def r30_1 : List VOp :=
  [lda 6 42 3,
   ⟨some 7, .call ⟨.value (.func 73), #[.tmp 6], #[42]⟩, 22, none⟩,
   ⟨some 5, .alloc 22, 0, none⟩,
   ⟨none, .store 22 (.tmp 5) (.tmp 7), 0, none⟩]
def r30_2 : List VOp :=
  [fad 8 24 2 0,
   lda 9 22 8,
   ⟨some 10, .call ⟨.value (.func 75), #[.tmp 9], #[22]⟩, 22, none⟩,
   ⟨some 11, .makeFunc (Fn.func 76) #[] #[(.tmp 5)], 90, none⟩,
   ⟨some 12, .call ⟨.value (.func 74), #[.tmp 10, .tmp 11], #[22, 90]⟩, 22, none⟩,
   asg 4 12 22]
def B30 : VC :=
  (.seq (.region r30_0) (.seq (.region r30_1) (.seq (.region r30_2) .ret)))
theorem code30 : ∃ c, Try.f30.body = some c ∧ abs Try.f30.ntmps c = B30 := ⟨_, rfl, by kernel_rfl⟩
theorem hb30 : HasBody Try.prog 30 := hasBody_of Try.func30 (by kernel_rfl)
theorem res30 : Try.f30.results = #[(.tmp 4)] := rfl
theorem enter30 {w : World} {R : Value → World → Prop} (x0 x1 : Value) (h : vc Try.prog B30 (retK Try.prog #[(.tmp 4)] R) [] (initEnv [x0, x1] 0) w) : FnC Try.prog 30 #[x0, x1] w R := by
  obtain ⟨c, h1, h2⟩ := code30
  exact hb30.fn (ret_of_vc mixed Try.func30 h1 (Nat.le_of_ble_eq_true rfl) B30 h2 h)
@[push_cast] theorem vr30_0 : VR r30_0 [⟨some 2, .box 24 (.tmp 0), 0, none⟩, ⟨some 3, .box 42 (.tmp 1), 0, none⟩, ⟨some 4, .assign (.const (.slice none 0 0)), 22, none⟩] := vR rfl
@[push_cast] theorem vr30_1 : VR r30_1 [⟨some 6, .load 42 (.tmp 3), 42, none⟩, ⟨some 7, .call ⟨.value (.func 73), #[.tmp 6], #[42]⟩, 22, none⟩, ⟨some 5, .alloc 22, 0, none⟩, ⟨none, .store 22 (.tmp 5) (.tmp 7), 0, none⟩] := vR rfl
@[push_cast] theorem vr30_2 : VR r30_2 [⟨some 8, .fieldAddr 24 (.tmp 2) 0, 0, none⟩, ⟨some 9, .load 22 (.tmp 8), 22, none⟩, ⟨some 10, .call ⟨.value (.func 75), #[.tmp 9], #[22]⟩, 22, none⟩, ⟨some 11, .makeFunc (Fn.func 76) #[] #[(.tmp 5)], 90, none⟩, ⟨some 12, .call ⟨.value (.func 74), #[.tmp 10, .tmp 11], #[22, 90]⟩, 22, none⟩, ⟨some 4, .assign (.tmp 12), 22, none⟩] := vR rfl
/-! 36 slices.ContainsFunc[[]string,string] (params #[22, 90], results #[(.tmp 4)], 9 slots) -/
def r36_0 : List VOp :=
  [⟨some 4, .assign (.const (.bool false)), 4, none⟩]
def r36_1 : List VOp :=
  [mv 5 0 22,
   mv 6 1 90,
   ⟨some 7, .call ⟨.value (.func 80), #[.tmp 5, .tmp 6], #[22, 90]⟩, 3, none⟩,
   ⟨some 8, .binOp .geq 3 (.tmp 7) (.const (.int .i64 0)) 3, 4, none⟩,
   asg 4 8 4]
def B36 : VC :=
  (.seq (.region r36_0) (.seq (.region r36_1) .ret))
theorem code36 : ∃ c, Try.f36.body = some c ∧ abs Try.f36.ntmps c = B36 := ⟨_, rfl, by kernel_rfl⟩
theorem hb36 : HasBody Try.prog 36 := hasBody_of Try.func36 (by kernel_rfl)
theorem res36 : Try.f36.results = #[(.tmp 4)] := rfl
theorem enter36 {w : World} {R : Value → World → Prop} (x0 x1 : Value) (h : vc Try.prog B36 (retK Try.prog #[(.tmp 4)] R) [] (initEnv [x0, x1] 0) w) : FnC Try.prog 36 #[x0, x1] w R := by
  obtain ⟨c, h1, h2⟩ := code36
  exact hb36.fn (ret_of_vc mixed Try.func36 h1 (Nat.le_of_ble_eq_true rfl) B36 h2 h)
@[push_cast] theorem vr36_0 : VR r36_0 [⟨some 4, .assign (.const (.bool false)), 4, none⟩] := vR rfl
@[push_cast] theorem vr36_1 : VR r36_1 [⟨some 5, .move (.tmp 0), 22, none⟩, ⟨some 6, .move (.tmp 1), 90, none⟩, ⟨some 7, .call ⟨.value (.func 80), #[.tmp 5, .tmp 6], #[22, 90]⟩, 3, none⟩, ⟨some 8, .binOp .geq 3 (.tmp 7) (.const (.int .i64 0)) 3, 4, none⟩, ⟨some 4, .assign (.tmp 8), 4, none⟩] := vR rfl
/-! 38 slices.Contains[[]string,string] (params #[22, 9], results #[(.tmp 4)], 9 slots) -/
def r38_0 : List VOp :=
  [⟨some 4, .assign (.const (.bool false)), 4, none⟩]
def r38_1 : List VOp :=
  [mv 5 0 22,
   mv 6 1 9,
   ⟨some 7, .call ⟨.value (.func 81), #[.tmp 5, .tmp 6], #[22, 9]⟩, 3, none⟩,
   ⟨some 8, .binOp .geq 3 (.tmp 7) (.const (.int .i64 0)) 3, 4, none⟩,
   asg 4 8 4]
def B38 : VC :=
  (.seq (.region r38_0) (.seq (.region r38_1) .ret))
theorem code38 : ∃ c, Try.f38.body = some c ∧ abs Try.f38.ntmps c = B38 := ⟨_, rfl, by kernel_rfl⟩
theorem hb38 : HasBody Try.prog 38 := hasBody_of Try.func38 (by kernel_rfl)
theorem res38 : Try.f38.results = #[(.tmp 4)] := rfl
theorem enter38 {w : World} {R : Value → World → Prop} (x0 x1 : Value) (h : vc Try.prog B38 (retK Try.prog #[(.tmp 4)] R) [] (initEnv [x0, x1] 0) w) : FnC Try.prog 38 #[x0, x1] w R := by
  obtain ⟨c, h1, h2⟩ := code38
  exact hb38.fn (ret_of_vc mixed Try.func38 h1 (Nat.le_of_ble_eq_true rfl) B38 h2 h)
@[push_cast] theorem vr38_0 : VR r38_0 [⟨some 4, .assign (.const (.bool false)), 4, none⟩] := vR rfl
@[push_cast] theorem vr38_1 : VR r38_1 [⟨some 5, .move (.tmp 0), 22, none⟩, ⟨some 6, .move (.tmp 1), 9, none⟩, ⟨some 7, .call ⟨.value (.func 81), #[.tmp 5, .tmp 6], #[22, 9]⟩, 3, none⟩, ⟨some 8, .binOp .geq 3 (.tmp 7) (.const (.int .i64 0)) 3, 4, none⟩, ⟨some 4, .assign (.tmp 8), 4, none⟩] := vR rfl
/-! 73 columbary/typer.dims (params #[42], results #[(.tmp 2)], 24 slots) -/
def W73_0 : List Nat := [3, 5, 13, 14, 15, 16, 17, 18, 19, 20, 21, 22]
@[push_cast] theorem W73_0_def : W73_0 = [3, 5, 13, 14, 15, 16, 17, 18, 19, 20, 21, 22] := mk_eq rfl
def r73_0 : List VOp :=
  [⟨some 1, .box 42 (.tmp 0), 0, none⟩,
   ⟨some 2, .assign (.const (.slice none 0 0)), 22, none⟩]
def r73_1 : List VOp :=
  [fad 6 42 1 4,
   lda 7 22 6,
   ⟨some 8, .call ⟨.value (.func 75), #[.tmp 7], #[22]⟩, 22, none⟩,
   asg 3 8 22]
def r73_2 : List VOp :=
  [fad 9 42 1 5,
   lda 10 39 9,
   ⟨some 11, .call ⟨.value (.func 119), #[.tmp 10], #[39]⟩, 37, none⟩,
   ⟨some 12, .call ⟨.builtin .len, #[.tmp 11], #[37]⟩, 3, none⟩,
   ⟨some 13, .move (.const (.int .i64 0)), 3, none⟩]
def r73_3 : List VOp :=
  [⟨some 14, .binOp .lss 3 (.tmp 13) (.tmp 12) 3, 0, none⟩]
def r73_4 : List VOp :=
  [iad 15 37 11 13,
   lda 16 39 15,
   ⟨some 5, .alloc 39, 0, none⟩,
   ⟨none, .store 39 (.tmp 5) (.tmp 16), 0, none⟩]
def r73_5 : List VOp :=
  [mv 17 3 22,
   fad 18 39 5 1,
   lda 19 9 18,
   ⟨some 20, .buildSlice 22 1 #[(0, (.tmp 19))], 22, none⟩,
   ⟨some 21, .call ⟨.builtin .append, #[.tmp 17, .tmp 20], #[22, 22]⟩, 22, none⟩,
   asg 3 21 22]
def r73_6 : List VOp :=
  [⟨some 22, .binOp .add 3 (.tmp 13) (.const (.int .i64 1)) 3, 3, none⟩,
   mv 13 22 3]
def r73_7 : List VOp :=
  [mv 23 3 22,
   asg 2 23 22]
def B73 : VC :=
  (.seq (.region r73_0) (.seq (.region r73_1) (.seq (.seq (.region r73_2) (.block 0 (.loop (.seq (.region r73_3) (.seq (.cond (.tmp 14) .skip (.exit 0)) (.seq (.block 1 (.seq (.region r73_4) (.region r73_5))) (.region r73_6))))))) (.seq (.region r73_7) .ret))))
theorem code73 : ∃ c, Try.f73.body = some c ∧ abs Try.f73.ntmps c = B73 := ⟨_, rfl, by kernel_rfl⟩
theorem hb73 : HasBody Try.prog 73 := hasBody_of Try.func73 (by kernel_rfl)
theorem res73 : Try.f73.results = #[(.tmp 2)] := rfl
theorem enter73 {w : World} {R : Value → World → Prop} (x0 : Value) (h : vc Try.prog B73 (retK Try.prog #[(.tmp 2)] R) [] (initEnv [x0] 0) w) : FnC Try.prog 73 #[x0] w R := by
  obtain ⟨c, h1, h2⟩ := code73
  exact hb73.fn (ret_of_vc mixed Try.func73 h1 (Nat.le_of_ble_eq_true rfl) B73 h2 h)
@[push_cast] theorem vr73_0 : VR r73_0 [⟨some 1, .box 42 (.tmp 0), 0, none⟩, ⟨some 2, .assign (.const (.slice none 0 0)), 22, none⟩] := vR rfl
@[push_cast] theorem vr73_1 : VR r73_1 [⟨some 6, .fieldAddr 42 (.tmp 1) 4, 0, none⟩, ⟨some 7, .load 22 (.tmp 6), 22, none⟩, ⟨some 8, .call ⟨.value (.func 75), #[.tmp 7], #[22]⟩, 22, none⟩, ⟨some 3, .assign (.tmp 8), 22, none⟩] := vR rfl
@[push_cast] theorem vr73_2 : VR r73_2 [⟨some 9, .fieldAddr 42 (.tmp 1) 5, 0, none⟩, ⟨some 10, .load 39 (.tmp 9), 39, none⟩, ⟨some 11, .call ⟨.value (.func 119), #[.tmp 10], #[39]⟩, 37, none⟩, ⟨some 12, .call ⟨.builtin .len, #[.tmp 11], #[37]⟩, 3, none⟩, ⟨some 13, .move (.const (.int .i64 0)), 3, none⟩] := vR rfl
@[push_cast] theorem vr73_3 : VR r73_3 [⟨some 14, .binOp .lss 3 (.tmp 13) (.tmp 12) 3, 0, none⟩] := vR rfl
@[push_cast] theorem vr73_4 : VR r73_4 [⟨some 15, .indexAddr 37 (.tmp 11) (.tmp 13), 0, none⟩, ⟨some 16, .load 39 (.tmp 15), 39, none⟩, ⟨some 5, .alloc 39, 0, none⟩, ⟨none, .store 39 (.tmp 5) (.tmp 16), 0, none⟩] := vR rfl
@[push_cast] theorem vr73_5 : VR r73_5 [⟨some 17, .move (.tmp 3), 22, none⟩, ⟨some 18, .fieldAddr 39 (.tmp 5) 1, 0, none⟩, ⟨some 19, .load 9 (.tmp 18), 9, none⟩, ⟨some 20, .buildSlice 22 1 #[(0, (.tmp 19))], 22, none⟩, ⟨some 21, .call ⟨.builtin .append, #[.tmp 17, .tmp 20], #[22, 22]⟩, 22, none⟩, ⟨some 3, .assign (.tmp 21), 22, none⟩] := vR rfl
@[push_cast] theorem vr73_6 : VR r73_6 [⟨some 22, .binOp .add 3 (.tmp 13) (.const (.int .i64 1)) 3, 3, none⟩, ⟨some 13, .move (.tmp 22), 3, none⟩] := vR rfl
@[push_cast] theorem vr73_7 : VR r73_7 [⟨some 23, .move (.tmp 3), 22, none⟩, ⟨some 2, .assign (.tmp 23), 22, none⟩] := vR rfl
/-! 74 slices.DeleteFunc[[]string,string] (params #[22, 90], results #[(.tmp 4)], 42 slots) -/
def W74_0 : List Nat := [5, 6, 7, 16, 17, 18, 19, 20, 21, 22, 23, 24, 25, 26, 27, 28, 29, 30, 31, 32, 33, 34, 35]
@[push_cast] theorem W74_0_def : W74_0 = [5, 6, 7, 16, 17, 18, 19, 20, 21, 22, 23, 24, 25, 26, 27, 28, 29, 30, 31, 32, 33, 34, 35] := mk_eq rfl
def r74_0 : List VOp :=
  [⟨some 4, .assign (.const (.slice none 0 0)), 22, none⟩]
def r74_1 : List VOp :=
  [mv 8 0 22,
   mv 9 1 90,
   ⟨some 10, .call ⟨.value (.func 80), #[.tmp 8, .tmp 9], #[22, 90]⟩, 3, none⟩,
   asg 5 10 3]
def r74_2 : List VOp :=
  [mv 11 5 3,
   ⟨some 12, .binOp .eql 3 (.tmp 11) (.const (.int .i64 (-1))) 3, 4, none⟩]
def r74_3 : List VOp :=
  [mv 13 0 22,
   asg 4 13 22]
def r74_4 : List VOp :=
  [mv 14 5 3,
   ⟨some 15, .binOp .add 3 (.tmp 14) (.const (.int .i64 1)) 3, 3, none⟩,
   asg 6 15 3]
def r74_5 : List VOp :=
  [mv 16 6 3,
   mv 17 0 22,
   ⟨some 18, .call ⟨.builtin .len, #[.tmp 17], #[22]⟩, 3, none⟩,
   ⟨some 19, .binOp .lss 3 (.tmp 16) (.tmp 18) 3, 4, none⟩]
def r74_7 : List VOp :=
  [mv 22 0 22,
   mv 23 6 3,
   iad 24 22 22 23,
   lda 25 9 24,
   asg 7 25 9]
def r74_8 : List VOp :=
  [mv 26 1 90,
   mv 27 7 9,
   ⟨some 28, .call ⟨.value (.tmp 26), #[.tmp 27], #[9]⟩, 4, none⟩,
   ⟨some 29, .unOp .not 4 (.tmp 28), 4, none⟩]
def r74_9 : List VOp :=
  [mv 30 0 22,
   mv 31 5 3,
   mv 32 7 9,
   iad 33 22 30 31,
   ⟨none, .store 9 (.tmp 33) (.tmp 32), 0, none⟩]
def r74_10 : List VOp :=
  [mv 34 5 3,
   ⟨some 35, .binOp .add 3 (.tmp 34) (.const (.int .i64 1)) 3, 3, none⟩,
   asg 5 35 3]
def r74_6 : List VOp :=
  [mv 20 6 3,
   ⟨some 21, .binOp .add 3 (.tmp 20) (.const (.int .i64 1)) 3, 3, none⟩,
   asg 6 21 3]
def r74_11 : List VOp :=
  [mv 36 0 22,
   mv 37 5 3,
   ⟨some 38, .slice 22 (.tmp 36) (some (.tmp 37)) none none, 22, none⟩,
   ⟨none, .call ⟨.builtin .clear, #[.tmp 38], #[22]⟩, 0, none⟩]
def r74_12 : List VOp :=
  [mv 39 0 22,
   mv 40 5 3,
   ⟨some 41, .slice 22 (.tmp 39) none (some (.tmp 40)) none, 22, none⟩,
   asg 4 41 22]
def B74 : VC :=
  (.seq (.region r74_0) (.seq (.region r74_1) (.seq (.seq (.region r74_2) (.cond (.tmp 12) (.seq (.region r74_3) .ret) .skip)) (.seq (.seq (.region r74_4) (.block 0 (.loop (.seq (.seq (.region r74_5) (.cond (.tmp 19) .skip (.exit 0))) (.seq (.block 1 (.seq (.region r74_7) (.seq (.region r74_8) (.cond (.tmp 29) (.seq (.region r74_9) (.region r74_10)) .skip)))) (.region r74_6)))))) (.seq (.region r74_11) (.seq (.region r74_12) .ret))))))
theorem code74 : ∃ c, Try.f74.body = some c ∧ abs Try.f74.ntmps c = B74 := ⟨_, rfl, by kernel_rfl⟩
theorem hb74 : HasBody Try.prog 74 := hasBody_of Try.func74 (by kernel_rfl)
theorem res74 : Try.f74.results = #[(.tmp 4)] := rfl
theorem enter74 {w : World} {R : Value → World → Prop} (x0 x1 : Value) (h : vc Try.prog B74 (retK Try.prog #[(.tmp 4)] R) [] (initEnv [x0, x1] 0) w) : FnC Try.prog 74 #[x0, x1] w R := by
  obtain ⟨c, h1, h2⟩ := code74
  exact hb74.fn (ret_of_vc mixed Try.func74 h1 (Nat.le_of_ble_eq_true rfl) B74 h2 h)
@[push_cast] theorem vr74_0 : VR r74_0 [⟨some 4, .assign (.const (.slice none 0 0)), 22, none⟩] := vR rfl
@[push_cast] theorem vr74_1 : VR r74_1 [⟨some 8, .move (.tmp 0), 22, none⟩, ⟨some 9, .move (.tmp 1), 90, none⟩, ⟨some 10, .call ⟨.value (.func 80), #[.tmp 8, .tmp 9], #[22, 90]⟩, 3, none⟩, ⟨some 5, .assign (.tmp 10), 3, none⟩] := vR rfl
@[push_cast] theorem vr74_2 : VR r74_2 [⟨some 11, .move (.tmp 5), 3, none⟩, ⟨some 12, .binOp .eql 3 (.tmp 11) (.const (.int .i64 (-1))) 3, 4, none⟩] := vR rfl
@[push_cast] theorem vr74_3 : VR r74_3 [⟨some 13, .move (.tmp 0), 22, none⟩, ⟨some 4, .assign (.tmp 13), 22, none⟩] := vR rfl
@[push_cast] theorem vr74_4 : VR r74_4 [⟨some 14, .move (.tmp 5), 3, none⟩, ⟨some 15, .binOp .add 3 (.tmp 14) (.const (.int .i64 1)) 3, 3, none⟩, ⟨some 6, .assign (.tmp 15), 3, none⟩] := vR rfl
@[push_cast] theorem vr74_5 : VR r74_5 [⟨some 16, .move (.tmp 6), 3, none⟩, ⟨some 17, .move (.tmp 0), 22, none⟩, ⟨some 18, .call ⟨.builtin .len, #[.tmp 17], #[22]⟩, 3, none⟩, ⟨some 19, .binOp .lss 3 (.tmp 16) (.tmp 18) 3, 4, none⟩] := vR rfl
@[push_cast] theorem vr74_7 : VR r74_7 [⟨some 22, .move (.tmp 0), 22, none⟩, ⟨some 23, .move (.tmp 6), 3, none⟩, ⟨some 24, .indexAddr 22 (.tmp 22) (.tmp 23), 0, none⟩, ⟨some 25, .load 9 (.tmp 24), 9, none⟩, ⟨some 7, .assign (.tmp 25), 9, none⟩] := vR rfl
@[push_cast] theorem vr74_8 : VR r74_8 [⟨some 26, .move (.tmp 1), 90, none⟩, ⟨some 27, .move (.tmp 7), 9, none⟩, ⟨some 28, .call ⟨.value (.tmp 26), #[.tmp 27], #[9]⟩, 4, none⟩, ⟨some 29, .unOp .not 4 (.tmp 28), 4, none⟩] := vR rfl
@[push_cast] theorem vr74_9 : VR r74_9 [⟨some 30, .move (.tmp 0), 22, none⟩, ⟨some 31, .move (.tmp 5), 3, none⟩, ⟨some 32, .move (.tmp 7), 9, none⟩, ⟨some 33, .indexAddr 22 (.tmp 30) (.tmp 31), 0, none⟩, ⟨none, .store 9 (.tmp 33) (.tmp 32), 0, none⟩] := vR rfl
@[push_cast] theorem vr74_10 : VR r74_10 [⟨some 34, .move (.tmp 5), 3, none⟩, ⟨some 35, .binOp .add 3 (.tmp 34) (.const (.int .i64 1)) 3, 3, none⟩, ⟨some 5, .assign (.tmp 35), 3, none⟩] := vR rfl
@[push_cast] theorem vr74_6 : VR r74_6 [⟨some 20, .move (.tmp 6), 3, none⟩, ⟨some 21, .binOp .add 3 (.tmp 20) (.const (.int .i64 1)) 3, 3, none⟩, ⟨some 6, .assign (.tmp 21), 3, none⟩] := vR rfl
@[push_cast] theorem vr74_11 : VR r74_11 [⟨some 36, .move (.tmp 0), 22, none⟩, ⟨some 37, .move (.tmp 5), 3, none⟩, ⟨some 38, .slice 22 (.tmp 36) (some (.tmp 37)) none none, 22, none⟩, ⟨none, .call ⟨.builtin .clear, #[.tmp 38], #[22]⟩, 0, none⟩] := vR rfl
@[push_cast] theorem vr74_12 : VR r74_12 [⟨some 39, .move (.tmp 0), 22, none⟩, ⟨some 40, .move (.tmp 5), 3, none⟩, ⟨some 41, .slice 22 (.tmp 39) none (some (.tmp 40)) none, 22, none⟩, ⟨some 4, .assign (.tmp 41), 22, none⟩] := vR rfl
/-! 75 slices.Clone[[]string,string] (params #[22], results #[(.tmp 2)], 8 slots) -/
def r75_0 : List VOp :=
  [⟨some 2, .assign (.const (.slice none 0 0)), 22, none⟩]
def r75_1 : List VOp :=
  [mv 3 0 22,
   ⟨some 4, .binOp .eql 22 (.tmp 3) (.const (.slice none 0 0)) 22, 4, none⟩]
def r75_2 : List VOp :=
  [⟨some 2, .assign (.const (.slice none 0 0)), 22, none⟩]
def r75_3 : List VOp :=
  [⟨some 5, .buildSlice 22 0 #[], 22, none⟩,
   mv 6 0 22,
   ⟨some 7, .call ⟨.builtin .append, #[.tmp 5, .tmp 6], #[22, 22]⟩, 22, none⟩,
   asg 2 7 22]
def B75 : VC :=
  (.seq (.region r75_0) (.seq (.seq (.region r75_1) (.cond (.tmp 4) (.seq (.region r75_2) .ret) .skip)) (.seq (.region r75_3) .ret)))
theorem code75 : ∃ c, Try.f75.body = some c ∧ abs Try.f75.ntmps c = B75 := ⟨_, rfl, by kernel_rfl⟩
theorem hb75 : HasBody Try.prog 75 := hasBody_of Try.func75 (by kernel_rfl)
theorem res75 : Try.f75.results = #[(.tmp 2)] := rfl
theorem enter75 {w : World} {R : Value → World → Prop} (x0 : Value) (h : vc Try.prog B75 (retK Try.prog #[(.tmp 2)] R) [] (initEnv [x0] 0) w) : FnC Try.prog 75 #[x0] w R := by
  obtain ⟨c, h1, h2⟩ := code75
  exact hb75.fn (ret_of_vc mixed Try.func75 h1 (Nat.le_of_ble_eq_true rfl) B75 h2 h)
@[push_cast] theorem vr75_0 : VR r75_0 [⟨some 2, .assign (.const (.slice none 0 0)), 22, none⟩] := vR rfl
@[push_cast] theorem vr75_1 : VR r75_1 [⟨some 3, .move (.tmp 0), 22, none⟩, ⟨some 4, .binOp .eql 22 (.tmp 3) (.const (.slice none 0 0)) 22, 4, none⟩] := vR rfl
@[push_cast] theorem vr75_2 : VR r75_2 [⟨some 2, .assign (.const (.slice none 0 0)), 22, none⟩] := vR rfl
@[push_cast] theorem vr75_3 : VR r75_3 [⟨some 5, .buildSlice 22 0 #[], 22, none⟩, ⟨some 6, .move (.tmp 0), 22, none⟩, ⟨some 7, .call ⟨.builtin .append, #[.tmp 5, .tmp 6], #[22, 22]⟩, 22, none⟩, ⟨some 2, .assign (.tmp 7), 22, none⟩] := vR rfl
/-! 76 columbary/typer.Used$1 (params #[9], results #[(.tmp 3)], 8 slots) -/
def r76_0 : List VOp :=
  [⟨some 3, .assign (.const (.bool false)), 4, none⟩]
def r76_1 : List VOp :=
  [lda 4 22 1,
   mv 5 0 9,
   ⟨some 6, .call ⟨.value (.func 38), #[.tmp 4, .tmp 5], #[22, 9]⟩, 4, none⟩,
   ⟨some 7, .unOp .not 4 (.tmp 6), 4, none⟩,
   asg 3 7 4]
def B76 : VC :=
  (.seq (.region r76_0) (.seq (.region r76_1) .ret))
theorem code76 : ∃ c, Try.f76.body = some c ∧ abs Try.f76.ntmps c = B76 := ⟨_, rfl, by kernel_rfl⟩
theorem hb76 : HasBody Try.prog 76 := hasBody_of Try.func76 (by kernel_rfl)
theorem res76 : Try.f76.results = #[(.tmp 3)] := rfl
theorem enter76 {w : World} {R : Value → World → Prop} (x0 x1 : Value) (h : vc Try.prog B76 (retK Try.prog #[(.tmp 3)] R) [] (initEnv [x0, x1] 0) w) : FnC Try.prog 76 #[x0, x1] w R := by
  obtain ⟨c, h1, h2⟩ := code76
  exact hb76.fn (ret_of_vc mixed Try.func76 h1 (Nat.le_of_ble_eq_true rfl) B76 h2 h)
@[push_cast] theorem vr76_0 : VR r76_0 [⟨some 3, .assign (.const (.bool false)), 4, none⟩] := vR rfl
@[push_cast] theorem vr76_1 : VR r76_1 [⟨some 4, .load 22 (.tmp 1), 22, none⟩, ⟨some 5, .move (.tmp 0), 9, none⟩, ⟨some 6, .call ⟨.value (.func 38), #[.tmp 4, .tmp 5], #[22, 9]⟩, 4, none⟩, ⟨some 7, .unOp .not 4 (.tmp 6), 4, none⟩, ⟨some 3, .assign (.tmp 7), 4, none⟩] := vR rfl
/-! 80 slices.IndexFunc[[]string,string] (params #[22, 90], results #[(.tmp 4)], 19 slots) -/
def W80_0 : List Nat := [4, 5, 8, 9, 10, 11, 12, 13, 14, 15, 16, 17, 18]
@[push_cast] theorem W80_0_def : W80_0 = [4, 5, 8, 9, 10, 11, 12, 13, 14, 15, 16, 17, 18] := mk_eq rfl
def r80_0 : List VOp :=
  [⟨some 4, .assign (.const (.int .i64 0)), 3, none⟩]
def r80_1 : List VOp :=
  [mv 6 0 22,
   ⟨some 7, .call ⟨.builtin .len, #[.tmp 6], #[22]⟩, 3, none⟩,
   ⟨some 8, .move (.const (.int .i64 0)), 3, none⟩]
def r80_2 : List VOp :=
  [⟨some 9, .binOp .lss 3 (.tmp 8) (.tmp 7) 3, 0, none⟩]
def r80_3 : List VOp :=
  [mv 10 8 3,
   asg 5 10 3]
def r80_4 : List VOp :=
  [mv 11 1 90,
   mv 12 0 22,
   mv 13 5 3,
   iad 14 22 12 13,
   lda 15 9 14,
   ⟨some 16, .call ⟨.value (.tmp 11), #[.tmp 15], #[9]⟩, 4, none⟩]
def r80_5 : List VOp :=
  [mv 17 5 3,
   asg 4 17 3]
def r80_6 : List VOp :=
  [⟨some 18, .binOp .add 3 (.tmp 8) (.const (.int .i64 1)) 3, 3, none⟩,
   mv 8 18 3]
def r80_7 : List VOp :=
  [⟨some 4, .assign (.const (.int .i64 (-1))), 3, none⟩]
def B80 : VC :=
  (.seq (.region r80_0) (.seq (.seq (.region r80_1) (.block 0 (.loop (.seq (.region r80_2) (.seq (.cond (.tmp 9) .skip (.exit 0)) (.seq (.block 1 (.seq (.region r80_3) (.seq (.region r80_4) (.cond (.tmp 16) (.seq (.region r80_5) .ret) .skip)))) (.region r80_6))))))) (.seq (.region r80_7) .ret)))
theorem code80 : ∃ c, Try.f80.body = some c ∧ abs Try.f80.ntmps c = B80 := ⟨_, rfl, by kernel_rfl⟩
theorem hb80 : HasBody Try.prog 80 := hasBody_of Try.func80 (by kernel_rfl)
theorem res80 : Try.f80.results = #[(.tmp 4)] := rfl
theorem enter80 {w : World} {R : Value → World → Prop} (x0 x1 : Value) (h : vc Try.prog B80 (retK Try.prog #[(.tmp 4)] R) [] (initEnv [x0, x1] 0) w) : FnC Try.prog 80 #[x0, x1] w R := by
  obtain ⟨c, h1, h2⟩ := code80
  exact hb80.fn (ret_of_vc mixed Try.func80 h1 (Nat.le_of_ble_eq_true rfl) B80 h2 h)
@[push_cast] theorem vr80_0 : VR r80_0 [⟨some 4, .assign (.const (.int .i64 0)), 3, none⟩] := vR rfl
@[push_cast] theorem vr80_1 : VR r80_1 [⟨some 6, .move (.tmp 0), 22, none⟩, ⟨some 7, .call ⟨.builtin .len, #[.tmp 6], #[22]⟩, 3, none⟩, ⟨some 8, .move (.const (.int .i64 0)), 3, none⟩] := vR rfl
@[push_cast] theorem vr80_2 : VR r80_2 [⟨some 9, .binOp .lss 3 (.tmp 8) (.tmp 7) 3, 0, none⟩] := vR rfl
@[push_cast] theorem vr80_3 : VR r80_3 [⟨some 10, .move (.tmp 8), 3, none⟩, ⟨some 5, .assign (.tmp 10), 3, none⟩] := vR rfl
@[push_cast] theorem vr80_4 : VR r80_4 [⟨some 11, .move (.tmp 1), 90, none⟩, ⟨some 12, .move (.tmp 0), 22, none⟩, ⟨some 13, .move (.tmp 5), 3, none⟩, ⟨some 14, .indexAddr 22 (.tmp 12) (.tmp 13), 0, none⟩, ⟨some 15, .load 9 (.tmp 14), 9, none⟩, ⟨some 16, .call ⟨.value (.tmp 11), #[.tmp 15], #[9]⟩, 4, none⟩] := vR rfl
@[push_cast] theorem vr80_5 : VR r80_5 [⟨some 17, .move (.tmp 5), 3, none⟩, ⟨some 4, .assign (.tmp 17), 3, none⟩] := vR rfl
@[push_cast] theorem vr80_6 : VR r80_6 [⟨some 18, .binOp .add 3 (.tmp 8) (.const (.int .i64 1)) 3, 3, none⟩, ⟨some 8, .move (.tmp 18), 3, none⟩] := vR rfl
@[push_cast] theorem vr80_7 : VR r80_7 [⟨some 4, .assign (.const (.int .i64 (-1))), 3, none⟩] := vR rfl
/-! 81 slices.Index[[]string,string] (params #[22, 9], results #[(.tmp 4)], 19 slots) -/
def W81_0 : List Nat := [4, 5, 8, 9, 10, 11, 12, 13, 14, 15, 16, 17, 18]
@[push_cast] theorem W81_0_def : W81_0 = [4, 5, 8, 9, 10, 11, 12, 13, 14, 15, 16, 17, 18] := mk_eq rfl
def r81_0 : List VOp :=
  [⟨some 4, .assign (.const (.int .i64 0)), 3, none⟩]
def r81_1 : List VOp :=
  [mv 6 0 22,
   ⟨some 7, .call ⟨.builtin .len, #[.tmp 6], #[22]⟩, 3, none⟩,
   ⟨some 8, .move (.const (.int .i64 0)), 3, none⟩]
def r81_2 : List VOp :=
  [⟨some 9, .binOp .lss 3 (.tmp 8) (.tmp 7) 3, 0, none⟩]
def r81_3 : List VOp :=
  [mv 10 8 3,
   asg 5 10 3]
def r81_4 : List VOp :=
  [mv 11 1 9,
   mv 12 0 22,
   mv 13 5 3,
   iad 14 22 12 13,
   lda 15 9 14,
   ⟨some 16, .binOp .eql 9 (.tmp 11) (.tmp 15) 9, 4, none⟩]
def r81_5 : List VOp :=
  [mv 17 5 3,
   asg 4 17 3]
def r81_6 : List VOp :=
  [⟨some 18, .binOp .add 3 (.tmp 8) (.const (.int .i64 1)) 3, 3, none⟩,
   mv 8 18 3]
def r81_7 : List VOp :=
  [⟨some 4, .assign (.const (.int .i64 (-1))), 3, none⟩]
def B81 : VC :=
  (.seq (.region r81_0) (.seq (.seq (.region r81_1) (.block 0 (.loop (.seq (.region r81_2) (.seq (.cond (.tmp 9) .skip (.exit 0)) (.seq (.block 1 (.seq (.region r81_3) (.seq (.region r81_4) (.cond (.tmp 16) (.seq (.region r81_5) .ret) .skip)))) (.region r81_6))))))) (.seq (.region r81_7) .ret)))
theorem code81 : ∃ c, Try.f81.body = some c ∧ abs Try.f81.ntmps c = B81 := ⟨_, rfl, by kernel_rfl⟩
theorem hb81 : HasBody Try.prog 81 := hasBody_of Try.func81 (by kernel_rfl)
theorem res81 : Try.f81.results = #[(.tmp 4)] := rfl
theorem enter81 {w : World} {R : Value → World → Prop} (x0 x1 : Value) (h : vc Try.prog B81 (retK Try.prog #[(.tmp 4)] R) [] (initEnv [x0, x1] 0) w) : FnC Try.prog 81 #[x0, x1] w R := by
  obtain ⟨c, h1, h2⟩ := code81
  exact hb81.fn (ret_of_vc mixed Try.func81 h1 (Nat.le_of_ble_eq_true rfl) B81 h2 h)
@[push_cast] theorem vr81_0 : VR r81_0 [⟨some 4, .assign (.const (.int .i64 0)), 3, none⟩] := vR rfl
@[push_cast] theorem vr81_1 : VR r81_1 [⟨some 6, .move (.tmp 0), 22, none⟩, ⟨some 7, .call ⟨.builtin .len, #[.tmp 6], #[22]⟩, 3, none⟩, ⟨some 8, .move (.const (.int .i64 0)), 3, none⟩] := vR rfl
@[push_cast] theorem vr81_2 : VR r81_2 [⟨some 9, .binOp .lss 3 (.tmp 8) (.tmp 7) 3, 0, none⟩] := vR rfl
@[push_cast] theorem vr81_3 : VR r81_3 [⟨some 10, .move (.tmp 8), 3, none⟩, ⟨some 5, .assign (.tmp 10), 3, none⟩] := vR rfl
@[push_cast] theorem vr81_4 : VR r81_4 [⟨some 11, .move (.tmp 1), 9, none⟩, ⟨some 12, .move (.tmp 0), 22, none⟩, ⟨some 13, .move (.tmp 5), 3, none⟩, ⟨some 14, .indexAddr 22 (.tmp 12) (.tmp 13), 0, none⟩, ⟨some 15, .load 9 (.tmp 14), 9, none⟩, ⟨some 16, .binOp .eql 9 (.tmp 11) (.tmp 15) 9, 4, none⟩] := vR rfl
@[push_cast] theorem vr81_5 : VR r81_5 [⟨some 17, .move (.tmp 5), 3, none⟩, ⟨some 4, .assign (.tmp 17), 3, none⟩] := vR rfl
@[push_cast] theorem vr81_6 : VR r81_6 [⟨some 18, .binOp .add 3 (.tmp 8) (.const (.int .i64 1)) 3, 3, none⟩, ⟨some 8, .move (.tmp 18), 3, none⟩] := vR rfl
@[push_cast] theorem vr81_7 : VR r81_7 [⟨some 4, .assign (.const (.int .i64 (-1))), 3, none⟩] := vR rfl
/-! 82 columbary/bucket.Right (params #[3], results #[(.tmp 2)], 9 slots) -/
def r82_0 : List VOp :=
  [⟨some 2, .assign (.const (.bool false)), 4, none⟩]
def r82_1 : List VOp :=
  [mv 3 0 3,
   ⟨some 4, .binOp .geq 3 (.tmp 3) (.const (.int .i64 1)) 3, 4, none⟩,
   mv 5 4 4,
   ⟨some 6, .move (.tmp 0), 3, some (5, true)⟩,
   ⟨some 7, .binOp .leq 3 (.tmp 6) (.const (.int .i64 1048576)) 3, 4, some (5, true)⟩,
   ⟨some 8, .pick (.tmp 5) (.tmp 7) (.const (.bool false)), 4, none⟩,
   asg 2 8 4]
def B82 : VC :=
  (.seq (.region r82_0) (.seq (.region r82_1) .ret))
theorem code82 : ∃ c, Try.f82.body = some c ∧ abs Try.f82.ntmps c = B82 := ⟨_, rfl, by kernel_rfl⟩
theorem hb82 : HasBody Try.prog 82 := hasBody_of Try.func82 (by kernel_rfl)
theorem res82 : Try.f82.results = #[(.tmp 2)] := rfl
theorem enter82 {w : World} {R : Value → World → Prop} (x0 : Value) (h : vc Try.prog B82 (retK Try.prog #[(.tmp 2)] R) [] (initEnv [x0] 0) w) : FnC Try.prog 82 #[x0] w R := by
  obtain ⟨c, h1, h2⟩ := code82
  exact hb82.fn (ret_of_vc mixed Try.func82 h1 (Nat.le_of_ble_eq_true rfl) B82 h2 h)
@[push_cast] theorem vr82_0 : VR r82_0 [⟨some 2, .assign (.const (.bool false)), 4, none⟩] := vR rfl
@[push_cast] theorem vr82_1 : VR r82_1 [⟨some 3, .move (.tmp 0), 3, none⟩, ⟨some 4, .binOp .geq 3 (.tmp 3) (.const (.int .i64 1)) 3, 4, none⟩, ⟨some 5, .move (.tmp 4), 4, none⟩, ⟨some 6, .move (.tmp 0), 3, some (5, true)⟩, ⟨some 7, .binOp .leq 3 (.tmp 6) (.const (.int .i64 1048576)) 3, 4, some (5, true)⟩, ⟨some 8, .pick (.tmp 5) (.tmp 7) (.const (.bool false)), 4, none⟩, ⟨some 2, .assign (.tmp 8), 4, none⟩] := vR rfl
/-! 98 columbary/bucket.Floor (params #[3, 3], results #[(.tmp 4), (.tmp 5)], 19 slots) -/
def r98_0 : List VOp :=
  [⟨some 4, .assign (.const (.int .i64 0)), 3, none⟩,
   ⟨some 5, .assign (.const (.int .i64 0)), 53, none⟩]
def r98_1 : List VOp :=
  [mv 6 1 3,
   ⟨some 7, .call ⟨.value (.func 82), #[.tmp 6], #[3]⟩, 4, none⟩,
   ⟨some 8, .unOp .not 4 (.tmp 7), 4, none⟩,
   mv 9 8 4,
   ⟨some 10, .move (.tmp 0), 3, some (9, false)⟩,
   ⟨some 11, .call ⟨.value (.func 130), #[.tmp 10], #[3]⟩, 4, some (9, false)⟩,
   ⟨some 12, .unOp .not 4 (.tmp 11), 4, some (9, false)⟩,
   ⟨some 13, .pick (.tmp 9) (.const (.bool true)) (.tmp 12), 4, none⟩]
def r98_2 : List VOp :=
  [⟨some 4, .assign (.const (.int .i64 0)), 3, none⟩,
   ⟨some 5, .assign (.const (.int .i64 111)), 53, none⟩]
def r98_3 : List VOp :=
  [mv 14 0 3,
   mv 15 0 3,
   mv 16 1 3,
   ⟨some 17, .call ⟨.value (.func 131), #[.tmp 15, .tmp 16], #[3, 3]⟩, 3, none⟩,
   ⟨some 18, .binOp .sub 3 (.tmp 14) (.tmp 17) 3, 3, none⟩,
   asg 4 18 3,
   ⟨some 5, .assign (.const (.int .i64 0)), 53, none⟩]
def B98 : VC :=
  (.seq (.region r98_0) (.seq (.seq (.region r98_1) (.cond (.tmp 13) (.seq (.region r98_2) .ret) .skip)) (.seq (.region r98_3) .ret)))
theorem code98 : ∃ c, Try.f98.body = some c ∧ abs Try.f98.ntmps c = B98 := ⟨_, rfl, by kernel_rfl⟩
theorem hb98 : HasBody Try.prog 98 := hasBody_of Try.func98 (by kernel_rfl)
theorem res98 : Try.f98.results = #[(.tmp 4), (.tmp 5)] := rfl
theorem enter98 {w : World} {R : Value → World → Prop} (x0 x1 : Value) (h : vc Try.prog B98 (retK Try.prog #[(.tmp 4), (.tmp 5)] R) [] (initEnv [x0, x1] 0) w) : FnC Try.prog 98 #[x0, x1] w R := by
  obtain ⟨c, h1, h2⟩ := code98
  exact hb98.fn (ret_of_vc mixed Try.func98 h1 (Nat.le_of_ble_eq_true rfl) B98 h2 h)
@[push_cast] theorem vr98_0 : VR r98_0 [⟨some 4, .assign (.const (.int .i64 0)), 3, none⟩, ⟨some 5, .assign (.const (.int .i64 0)), 53, none⟩] := vR rfl
@[push_cast] theorem vr98_1 : VR r98_1 [⟨some 6, .move (.tmp 1), 3, none⟩, ⟨some 7, .call ⟨.value (.func 82), #[.tmp 6], #[3]⟩, 4, none⟩, ⟨some 8, .unOp .not 4 (.tmp 7), 4, none⟩, ⟨some 9, .move (.tmp 8), 4, none⟩, ⟨some 10, .move (.tmp 0), 3, some (9, false)⟩, ⟨some 11, .call ⟨.value (.func 130), #[.tmp 10], #[3]⟩, 4, some (9, false)⟩, ⟨some 12, .unOp .not 4 (.tmp 11), 4, some (9, false)⟩, ⟨some 13, .pick (.tmp 9) (.const (.bool true)) (.tmp 12), 4, none⟩] := vR rfl
@[push_cast] theorem vr98_2 : VR r98_2 [⟨some 4, .assign (.const (.int .i64 0)), 3, none⟩, ⟨some 5, .assign (.const (.int .i64 111)), 53, none⟩] := vR rfl
@[push_cast] theorem vr98_3 : VR r98_3 [⟨some 14, .move (.tmp 0), 3, none⟩, ⟨some 15, .move (.tmp 0), 3, none⟩, ⟨some 16, .move (.tmp 1), 3, none⟩, ⟨some 17, .call ⟨.value (.func 131), #[.tmp 15, .tmp 16], #[3, 3]⟩, 3, none⟩, ⟨some 18, .binOp .sub 3 (.tmp 14) (.tmp 17) 3, 3, none⟩, ⟨some 4, .assign (.tmp 18), 3, none⟩, ⟨some 5, .assign (.const (.int .i64 0)), 53, none⟩] := vR rfl
/-! 119 columbary/typer.conditions (params #[39], results #[(.tmp 2)], 10 slots) -/
def r119_0 : List VOp :=
  [⟨some 1, .box 39 (.tmp 0), 0, none⟩,
   ⟨some 2, .assign (.const (.slice none 0 0)), 37, none⟩]
def r119_1 : List VOp :=
  [⟨some 3, .alloc 37, 0, none⟩]
def r119_2 : List VOp :=
  [⟨some 4, .alloc 178, 0, none⟩]
def r119_3 : List VOp :=
  [⟨some 5, .makeFunc (Fn.func 149) #[] #[(.tmp 3), (.tmp 4)], 178, none⟩,
   ⟨none, .store 178 (.tmp 4) (.tmp 5), 0, none⟩]
def r119_4 : List VOp :=
  [lda 6 178 4,
   lda 7 39 1,
   ⟨some 8, .call ⟨.value (.tmp 6), #[.tmp 7], #[39]⟩, 0, none⟩]
def r119_5 : List VOp :=
  [lda 9 37 3,
   asg 2 9 37]
def B119 : VC :=
  (.seq (.region r119_0) (.seq (.region r119_1) (.seq (.region r119_2) (.seq (.region r119_3) (.seq (.region r119_4) (.seq (.region r119_5) .ret))))))
theorem code119 : ∃ c, Try.f119.body = some c ∧ abs Try.f119.ntmps c = B119 := ⟨_, rfl, by kernel_rfl⟩
theorem hb119 : HasBody Try.prog 119 := hasBody_of Try.func119 (by kernel_rfl)
theorem res119 : Try.f119.results = #[(.tmp 2)] := rfl
theorem enter119 {w : World} {R : Value → World → Prop} (x0 : Value) (h : vc Try.prog B119 (retK Try.prog #[(.tmp 2)] R) [] (initEnv [x0] 0) w) : FnC Try.prog 119 #[x0] w R := by
  obtain ⟨c, h1, h2⟩ := code119
  exact hb119.fn (ret_of_vc mixed Try.func119 h1 (Nat.le_of_ble_eq_true rfl) B119 h2 h)
@[push_cast] theorem vr119_0 : VR r119_0 [⟨some 1, .box 39 (.tmp 0), 0, none⟩, ⟨some 2, .assign (.const (.slice none 0 0)), 37, none⟩] := vR rfl
@[push_cast] theorem vr119_1 : VR r119_1 [⟨some 3, .alloc 37, 0, none⟩] := vR rfl
@[push_cast] theorem vr119_2 : VR r119_2 [⟨some 4, .alloc 178, 0, none⟩] := vR rfl
@[push_cast] theorem vr119_3 : VR r119_3 [⟨some 5, .makeFunc (Fn.func 149) #[] #[(.tmp 3), (.tmp 4)], 178, none⟩, ⟨none, .store 178 (.tmp 4) (.tmp 5), 0, none⟩] := vR rfl
@[push_cast] theorem vr119_4 : VR r119_4 [⟨some 6, .load 178 (.tmp 4), 178, none⟩, ⟨some 7, .load 39 (.tmp 1), 39, none⟩, ⟨some 8, .call ⟨.value (.tmp 6), #[.tmp 7], #[39]⟩, 0, none⟩] := vR rfl
@[push_cast] theorem vr119_5 : VR r119_5 [⟨some 9, .load 37 (.tmp 3), 37, none⟩, ⟨some 2, .assign (.tmp 9), 37, none⟩] := vR rfl
/-! 130 columbary/bucket.fits (params #[3], results #[(.tmp 2)], 9 slots) -/
def r130_0 : List VOp :=
  [⟨some 2, .assign (.const (.bool false)), 4, none⟩]
def r130_1 : List VOp :=
  [mv 3 0 3,
   ⟨some 4, .binOp .geq 3 (.tmp 3) (.const (.int .i64 (-1099511627776))) 3, 4, none⟩,
   mv 5 4 4,
   ⟨some 6, .move (.tmp 0), 3, some (5, true)⟩,
   ⟨some 7, .binOp .leq 3 (.tmp 6) (.const (.int .i64 1099511627776)) 3, 4, some (5, true)⟩,
   ⟨some 8, .pick (.tmp 5) (.tmp 7) (.const (.bool false)), 4, none⟩,
   asg 2 8 4]
def B130 : VC :=
  (.seq (.region r130_0) (.seq (.region r130_1) .ret))
theorem code130 : ∃ c, Try.f130.body = some c ∧ abs Try.f130.ntmps c = B130 := ⟨_, rfl, by kernel_rfl⟩
theorem hb130 : HasBody Try.prog 130 := hasBody_of Try.func130 (by kernel_rfl)
theorem res130 : Try.f130.results = #[(.tmp 2)] := rfl
theorem enter130 {w : World} {R : Value → World → Prop} (x0 : Value) (h : vc Try.prog B130 (retK Try.prog #[(.tmp 2)] R) [] (initEnv [x0] 0) w) : FnC Try.prog 130 #[x0] w R := by
  obtain ⟨c, h1, h2⟩ := code130
  exact hb130.fn (ret_of_vc mixed Try.func130 h1 (Nat.le_of_ble_eq_true rfl) B130 h2 h)
@[push_cast] theorem vr130_0 : VR r130_0 [⟨some 2, .assign (.const (.bool false)), 4, none⟩] := vR rfl
@[push_cast] theorem vr130_1 : VR r130_1 [⟨some 3, .move (.tmp 0), 3, none⟩, ⟨some 4, .binOp .geq 3 (.tmp 3) (.const (.int .i64 (-1099511627776))) 3, 4, none⟩, ⟨some 5, .move (.tmp 4), 4, none⟩, ⟨some 6, .move (.tmp 0), 3, some (5, true)⟩, ⟨some 7, .binOp .leq 3 (.tmp 6) (.const (.int .i64 1099511627776)) 3, 4, some (5, true)⟩, ⟨some 8, .pick (.tmp 5) (.tmp 7) (.const (.bool false)), 4, none⟩, ⟨some 2, .assign (.tmp 8), 4, none⟩] := vR rfl
/-! 131 columbary/bucket.rest (params #[3, 3], results #[(.tmp 4)], 12 slots) -/
def r131_0 : List VOp :=
  [⟨some 4, .assign (.const (.int .i64 0)), 3, none⟩]
def r131_1 : List VOp :=
  [mv 5 0 3,
   mv 6 1 3,
   ⟨some 7, .binOp .rem 3 (.tmp 5) (.tmp 6) 3, 3, none⟩,
   mv 8 1 3,
   ⟨some 9, .binOp .add 3 (.tmp 7) (.tmp 8) 3, 3, none⟩,
   mv 10 1 3,
   ⟨some 11, .binOp .rem 3 (.tmp 9) (.tmp 10) 3, 3, none⟩,
   asg 4 11 3]
def B131 : VC :=
  (.seq (.region r131_0) (.seq (.region r131_1) .ret))
theorem code131 : ∃ c, Try.f131.body = some c ∧ abs Try.f131.ntmps c = B131 := ⟨_, rfl, by kernel_rfl⟩
theorem hb131 : HasBody Try.prog 131 := hasBody_of Try.func131 (by kernel_rfl)
theorem res131 : Try.f131.results = #[(.tmp 4)] := rfl
theorem enter131 {w : World} {R : Value → World → Prop} (x0 x1 : Value) (h : vc Try.prog B131 (retK Try.prog #[(.tmp 4)] R) [] (initEnv [x0, x1] 0) w) : FnC Try.prog 131 #[x0, x1] w R := by
  obtain ⟨c, h1, h2⟩ := code131
  exact hb131.fn (ret_of_vc mixed Try.func131 h1 (Nat.le_of_ble_eq_true rfl) B131 h2 h)
@[push_cast] theorem vr131_0 : VR r131_0 [⟨some 4, .assign (.const (.int .i64 0)), 3, none⟩] := vR rfl
@[push_cast] theorem vr131_1 : VR r131_1 [⟨some 5, .move (.tmp 0), 3, none⟩, ⟨some 6, .move (.tmp 1), 3, none⟩, ⟨some 7, .binOp .rem 3 (.tmp 5) (.tmp 6) 3, 3, none⟩, ⟨some 8, .move (.tmp 1), 3, none⟩, ⟨some 9, .binOp .add 3 (.tmp 7) (.tmp 8) 3, 3, none⟩, ⟨some 10, .move (.tmp 1), 3, none⟩, ⟨some 11, .binOp .rem 3 (.tmp 9) (.tmp 10) 3, 3, none⟩, ⟨some 4, .assign (.tmp 11), 3, none⟩] := vR rfl
/-! 149 columbary/typer.conditions$1 (params #[39], results #[], 31 slots) -/
def W149_0 : List Nat := [5, 23, 24, 25, 26, 27, 28, 29, 30]
@[push_cast] theorem W149_0_def : W149_0 = [5, 23, 24, 25, 26, 27, 28, 29, 30] := mk_eq rfl
def r149_0 : List VOp :=
  [⟨some 3, .box 39 (.tmp 0), 0, none⟩]
def r149_1 : List VOp :=
  [fad 6 39 3 0,
   lda 7 36 6,
   ⟨some 8, .binOp .eql 36 (.tmp 7) (.const (.int .i64 1)) 36, 4, none⟩,
   mv 9 8 4,
   ⟨some 10, .fieldAddr 39 (.tmp 3) 0, 0, some (9, false)⟩,
   ⟨some 11, .load 36 (.tmp 10), 36, some (9, false)⟩,
   ⟨some 12, .binOp .eql 36 (.tmp 11) (.const (.int .i64 2)) 36, 4, some (9, false)⟩,
   ⟨some 13, .pick (.tmp 9) (.const (.bool true)) (.tmp 12), 4, none⟩]
def r149_2 : List VOp :=
  [lda 14 37 1,
   lda 15 39 3,
   ⟨some 16, .call ⟨.builtin .len, #[.tmp 14], #[37]⟩, 3, none⟩,
   ⟨some 17, .buildSlice 37 1 #[(0, (.const (.agg #[(.int .i64 0), (.string { data := #[] }), (.string { data := #[] }), (.slice none 0 0)])))], 37, none⟩,
   ⟨some 18, .call ⟨.builtin .append, #[.tmp 14, .tmp 17], #[37, 37]⟩, 37, none⟩,
   iad 19 37 18 16,
   ⟨none, .store 39 (.tmp 19) (.tmp 15), 0, none⟩,
   ⟨none, .store 37 (.tmp 1) (.tmp 18), 0, none⟩]
def r149_3 : List VOp :=
  [fad 20 39 3 3,
   lda 21 37 20,
   ⟨some 22, .call ⟨.builtin .len, #[.tmp 21], #[37]⟩, 3, none⟩,
   ⟨some 23, .move (.const (.int .i64 0)), 3, none⟩]
def r149_4 : List VOp :=
  [⟨some 24, .binOp .lss 3 (.tmp 23) (.tmp 22) 3, 0, none⟩]
def r149_5 : List VOp :=
  [iad 25 37 21 23,
   lda 26 39 25,
   ⟨some 5, .alloc 39, 0, none⟩,
   ⟨none, .store 39 (.tmp 5) (.tmp 26), 0, none⟩]
def r149_6 : List VOp :=
  [lda 27 178 2,
   lda 28 39 5,
   ⟨some 29, .call ⟨.value (.tmp 27), #[.tmp 28], #[39]⟩, 0, none⟩]
def r149_7 : List VOp :=
  [⟨some 30, .binOp .add 3 (.tmp 23) (.const (.int .i64 1)) 3, 3, none⟩,
   mv 23 30 3]
def B149 : VC :=
  (.seq (.region r149_0) (.seq (.seq (.region r149_1) (.cond (.tmp 13) (.drawA r149_2 1 [[], [], [0], [], [0, 3, 0, 1, 2, 3], [4, 2, 0, 1, 2, 3, 4], [5, 1, 4, 0, 1, 2, 3, 4], [4, 4, 0, 1, 2, 3, 4]]) .skip)) (.seq (.region r149_3) (.block 0 (.loop (.seq (.region r149_4) (.seq (.cond (.tmp 24) .skip (.exit 0)) (.seq (.block 1 (.seq (.region r149_5) (.region r149_6))) (.region r149_7)))))))))
theorem code149 : ∃ c, Try.f149.body = some c ∧ absT Try.f149.ntmps c = B149 := ⟨_, rfl, by kernel_rfl⟩
theorem hb149 : HasBody Try.prog 149 := hasBody_of Try.func149 (by kernel_rfl)
theorem res149 : Try.f149.results = #[] := rfl
theorem enter149 {w : World} {R : Value → World → Prop} (x0 x1 x2 : Value) (h : vc Try.prog B149 (retK Try.prog #[] R) [] (initEnv [x0, x1, x2] 0) w) : FnC Try.prog 149 #[x0, x1, x2] w R := by
  obtain ⟨c, h1, h2⟩ := code149
  exact hb149.fn (ret_of_vc mixed Try.func149 h1 (Nat.le_of_ble_eq_true rfl) B149 h2 h)
@[push_cast] theorem vr149_0 : VR r149_0 [⟨some 3, .box 39 (.tmp 0), 0, none⟩] := vR rfl
@[push_cast] theorem vr149_1 : VR r149_1 [⟨some 6, .fieldAddr 39 (.tmp 3) 0, 0, none⟩, ⟨some 7, .load 36 (.tmp 6), 36, none⟩, ⟨some 8, .binOp .eql 36 (.tmp 7) (.const (.int .i64 1)) 36, 4, none⟩, ⟨some 9, .move (.tmp 8), 4, none⟩, ⟨some 10, .fieldAddr 39 (.tmp 3) 0, 0, some (9, false)⟩, ⟨some 11, .load 36 (.tmp 10), 36, some (9, false)⟩, ⟨some 12, .binOp .eql 36 (.tmp 11) (.const (.int .i64 2)) 36, 4, some (9, false)⟩, ⟨some 13, .pick (.tmp 9) (.const (.bool true)) (.tmp 12), 4, none⟩] := vR rfl
@[push_cast] theorem vr149_2 : vc Try.prog (.drawA r149_2 1 [[], [], [0], [], [0, 3, 0, 1, 2, 3], [4, 2, 0, 1, 2, 3, 4], [5, 1, 4, 0, 1, 2, 3, 4], [4, 4, 0, 1, 2, 3, 4]]) Q ds σ w = drawnA Try.prog [⟨some 14, .load 37 (.tmp 1), 37, none⟩, ⟨some 15, .load 39 (.tmp 3), 39, none⟩, ⟨some 16, .call ⟨.builtin .len, #[.tmp 14], #[37]⟩, 3, none⟩, ⟨some 17, .buildSlice 37 1 #[(0, (.const (.agg #[(.int .i64 0), (.string { data := #[] }), (.string { data := #[] }), (.slice none 0 0)])))], 37, none⟩, ⟨some 18, .call ⟨.builtin .append, #[.tmp 14, .tmp 17], #[37, 37]⟩, 37, none⟩, ⟨some 19, .indexAddr 37 (.tmp 18) (.tmp 16), 0, none⟩, ⟨none, .store 39 (.tmp 19) (.tmp 15), 0, none⟩, ⟨none, .store 37 (.tmp 1) (.tmp 18), 0, none⟩] 1 [[], [], [0], [], [0, 3, 0, 1, 2, 3], [4, 2, 0, 1, 2, 3, 4], [5, 1, 4, 0, 1, 2, 3, 4], [4, 4, 0, 1, 2, 3, 4]] (Q .normal ds) σ w := mk_eq rfl
@[push_cast] theorem vr149_3 : VR r149_3 [⟨some 20, .fieldAddr 39 (.tmp 3) 3, 0, none⟩, ⟨some 21, .load 37 (.tmp 20), 37, none⟩, ⟨some 22, .call ⟨.builtin .len, #[.tmp 21], #[37]⟩, 3, none⟩, ⟨some 23, .move (.const (.int .i64 0)), 3, none⟩] := vR rfl
@[push_cast] theorem vr149_4 : VR r149_4 [⟨some 24, .binOp .lss 3 (.tmp 23) (.tmp 22) 3, 0, none⟩] := vR rfl
@[push_cast] theorem vr149_5 : VR r149_5 [⟨some 25, .indexAddr 37 (.tmp 21) (.tmp 23), 0, none⟩, ⟨some 26, .load 39 (.tmp 25), 39, none⟩, ⟨some 5, .alloc 39, 0, none⟩, ⟨none, .store 39 (.tmp 5) (.tmp 26), 0, none⟩] := vR rfl
@[push_cast] theorem vr149_6 : VR r149_6 [⟨some 27, .load 178 (.tmp 2), 178, none⟩, ⟨some 28, .load 39 (.tmp 5), 39, none⟩, ⟨some 29, .call ⟨.value (.tmp 27), #[.tmp 28], #[39]⟩, 0, none⟩] := vR rfl
@[push_cast] theorem vr149_7 : VR r149_7 [⟨some 30, .binOp .add 3 (.tmp 23) (.const (.int .i64 1)) 3, 3, none⟩, ⟨some 23, .move (.tmp 30), 3, none⟩] := vR rfl
@[push_cast] theorem bsl22_0_Codes7A {K : Value → World → Prop} {w : World}  : vBuildSlice Try.prog 22 0 #[] K w = K (.slice (some ⟨w.heap.size, 0, none⟩) 0 0) (w.alloc (.cells #[] 9)) :=
  vBuildSlice_ok Try.underlying22 ti9 (by kernel_rfl) (by decide)
@[push_cast] theorem bsl22_1_Codes7A {K : Value → World → Prop} {w : World} (x0 : ByteArray) : vBuildSlice Try.prog 22 1 #[(0, (.string x0))] K w = K (.slice (some ⟨w.heap.size, 0, none⟩) 1 1) (w.alloc (.cells #[(.string x0)] 9)) :=
  vBuildSlice_ok Try.underlying22 ti9 (by kernel_rfl) (by decide)
@[push_cast] theorem bsl22_2_Codes7A {K : Value → World → Prop} {w : World} (x0 : ByteArray) (x1 : ByteArray) : vBuildSlice Try.prog 22 2 #[(0, (.string x0)), (1, (.string x1))] K w = K (.slice (some ⟨w.heap.size, 0, none⟩) 2 2) (w.alloc (.cells #[(.string x0), (.string x1)] 9)) :=
  vBuildSlice_ok Try.underlying22 ti9 (by kernel_rfl) (by decide)
@[push_cast] theorem bsl25_2_Codes7A {K : Value → World → Prop} {w : World} (x00 x01 x02 : Value) (x10 x11 x12 : Value) : vBuildSlice Try.prog 25 2 #[(0, (.agg #[x00, x01, x02])), (1, (.agg #[x10, x11, x12]))] K w = K (.slice (some ⟨w.heap.size, 0, none⟩) 2 2) (w.alloc (.cells #[x00, x01, x02, x10, x11, x12] 60)) :=
  vBuildSlice_ok Try.underlying25 ti60 (by kernel_rfl) (by decide)
@[push_cast] theorem bsl26_1_Codes7A {K : Value → World → Prop} {w : World} (x00 x01 x02 : Value) : vBuildSlice Try.prog 26 1 #[(0, (.agg #[x00, x01, x02]))] K w = K (.slice (some ⟨w.heap.size, 0, none⟩) 1 1) (w.alloc (.cells #[x00, x01, x02] 51)) :=
  vBuildSlice_ok Try.underlying26 ti51 (by kernel_rfl) (by decide)
@[push_cast] theorem bsl29_2_Codes7A {K : Value → World → Prop} {w : World} (x0 : Int) (x1 : Int) : vBuildSlice Try.prog 29 2 #[(0, (.int .i64 x0)), (1, (.int .i64 x1))] K w = K (.slice (some ⟨w.heap.size, 0, none⟩) 2 2) (w.alloc (.cells #[(.int .i64 x0), (.int .i64 x1)] 3)) :=
  vBuildSlice_ok Try.underlying29 ti3 (by kernel_rfl) (by decide)
@[push_cast] theorem bsl32_2_Codes7A {K : Value → World → Prop} {w : World} (x00 x01 x02 x03 : Value) (x10 x11 x12 x13 : Value) : vBuildSlice Try.prog 32 2 #[(0, (.agg #[x00, x01, x02, x03])), (1, (.agg #[x10, x11, x12, x13]))] K w = K (.slice (some ⟨w.heap.size, 0, none⟩) 2 2) (w.alloc (.cells #[x00, x01, x02, x03, x10, x11, x12, x13] 57)) :=
  vBuildSlice_ok Try.underlying32 ti57 (by kernel_rfl) (by decide)
@[push_cast] theorem bsl35_1_Codes7A {K : Value → World → Prop} {w : World} (x00 x01 : Value) : vBuildSlice Try.prog 35 1 #[(0, (.agg #[x00, x01]))] K w = K (.slice (some ⟨w.heap.size, 0, none⟩) 1 1) (w.alloc (.cells #[x00, x01] 63)) :=
  vBuildSlice_ok Try.underlying35 ti63 (by kernel_rfl) (by decide)
@[push_cast] theorem bsl37_1_Codes7A {K : Value → World → Prop} {w : World} (x00 x01 x02 x03 : Value) : vBuildSlice Try.prog 37 1 #[(0, (.agg #[x00, x01, x02, x03]))] K w = K (.slice (some ⟨w.heap.size, 0, none⟩) 1 1) (w.alloc (.cells #[x00, x01, x02, x03] 39)) :=
  vBuildSlice_ok Try.underlying37 ti39 (by kernel_rfl) (by decide)
@[push_cast] theorem bsl45_1_Codes7A {K : Value → World → Prop} {w : World} (x00 x01 x02 x03 x04 : Value) : vBuildSlice Try.prog 45 1 #[(0, (.agg #[x00, x01, x02, x03, x04]))] K w = K (.slice (some ⟨w.heap.size, 0, none⟩) 1 1) (w.alloc (.cells #[x00, x01, x02, x03, x04] 49)) :=
  vBuildSlice_ok Try.underlying45 ti49 (by kernel_rfl) (by decide)
@[push_cast] theorem bld24_0_Codes7A {K : Value → World → Prop} {w : World} (x0o : Option Addr) (x0n x0c : Nat) : vBuild Try.prog 24 #[(0, (.slice x0o x0n x0c))] K w = K (.agg #[(.slice x0o x0n x0c), (.slice none 0 0)]) w :=
  vBuild_ok (by kernel_rfl)
@[push_cast] theorem bld28_0_1_2_Codes7A {K : Value → World → Prop} {w : World} (x0o : Option Addr) (x0n x0c : Nat) (x1o : Option Addr) (x1n x1c : Nat) (x2 : Int) : vBuild Try.prog 28 #[(0, (.slice x0o x0n x0c)), (1, (.slice x1o x1n x1c)), (2, (.int .i64 x2))] K w = K (.agg #[(.slice x0o x0n x0c), (.slice x1o x1n x1c), (.int .i64 x2)]) w :=
  vBuild_ok (by kernel_rfl)
@[push_cast] theorem bld34_0_1_2_3_5_6_Codes7A {K : Value → World → Prop} {w : World} (x00 x01 : Value) (x10 x11 x12 : Value) (x2 : Int) (x3o : Option Addr) (x3n x3c : Nat) (x5o : Option Addr) (x5n x5c : Nat) (x6 : ByteArray) : vBuild Try.prog 34 #[(0, (.agg #[x00, x01])), (1, (.agg #[x10, x11, x12])), (2, (.int .i64 x2)), (3, (.slice x3o x3n x3c)), (5, (.slice x5o x5n x5c)), (6, (.string x6))] K w = K (.agg #[x00, x01, x10, x11, x12, (.int .i64 x2), (.slice x3o x3n x3c), (.int .i64 0), (.slice none 0 0), (.slice x5o x5n x5c), (.string x6), (.int .i64 0)]) w :=
  vBuild_ok (by kernel_rfl)
@[push_cast] theorem bld42_0_1_2_3_Codes7A {K : Value → World → Prop} {w : World} (x0o : Option Addr) (x0n x0c : Nat) (x1 : Int) (x2 : Int) (x3 : Int) : vBuild Try.prog 42 #[(0, (.slice x0o x0n x0c)), (1, (.int .i64 x1)), (2, (.int .i64 x2)), (3, (.int .i64 x3))] K w = K (.agg #[(.slice x0o x0n x0c), (.int .i64 x1), (.int .i64 x2), (.int .i64 x3), (.slice none 0 0), (.int .i64 0), (.string ⟨#[]⟩), (.string ⟨#[]⟩), (.slice none 0 0), (.slice none 0 0), (.int .i64 0), (.int .i64 0)]) w :=
  vBuild_ok (by kernel_rfl)
@[push_cast] theorem bld49_0_1_2_3_Codes7A {K : Value → World → Prop} {w : World} (x0 : Int) (x1 : Int) (x2 : Int) (x3 : Int) : vBuild Try.prog 49 #[(0, (.int .i64 x0)), (1, (.int .i64 x1)), (2, (.int .i64 x2)), (3, (.int .i64 x3))] K w = K (.agg #[(.int .i64 x0), (.int .i64 x1), (.int .i64 x2), (.int .i64 x3), (.int .i64 0)]) w :=
  vBuild_ok (by kernel_rfl)
@[push_cast] theorem bld49_0_1_2_3_4_Codes7A {K : Value → World → Prop} {w : World} (x0 : Int) (x1 : Int) (x2 : Int) (x3 : Int) (x4 : Int) : vBuild Try.prog 49 #[(0, (.int .i64 x0)), (1, (.int .i64 x1)), (2, (.int .i64 x2)), (3, (.int .i64 x3)), (4, (.int .i64 x4))] K w = K (.agg #[(.int .i64 x0), (.int .i64 x1), (.int .i64 x2), (.int .i64 x3), (.int .i64 x4)]) w :=
  vBuild_ok (by kernel_rfl)
@[push_cast] theorem bld51_0_1_Codes7A {K : Value → World → Prop} {w : World} (x0 : Int) (x1 : Int) : vBuild Try.prog 51 #[(0, (.int .i64 x0)), (1, (.int .i64 x1))] K w = K (.agg #[(.int .i64 x0), (.int .i64 x1), (.slice none 0 0)]) w :=
  vBuild_ok (by kernel_rfl)
@[push_cast] theorem bld51_0_1_2_Codes7A {K : Value → World → Prop} {w : World} (x0 : Int) (x1 : Int) (x2o : Option Addr) (x2n x2c : Nat) : vBuild Try.prog 51 #[(0, (.int .i64 x0)), (1, (.int .i64 x1)), (2, (.slice x2o x2n x2c))] K w = K (.agg #[(.int .i64 x0), (.int .i64 x1), (.slice x2o x2n x2c)]) w :=
  vBuild_ok (by kernel_rfl)
@[push_cast] theorem bld57_0_2_3_Codes7A {K : Value → World → Prop} {w : World} (x0 : ByteArray) (x2 : Int) (x3 : Int) : vBuild Try.prog 57 #[(0, (.string x0)), (2, (.int .i64 x2)), (3, (.int .i64 x3))] K w = K (.agg #[(.string x0), (.int .i64 0), (.int .i64 x2), (.int .i64 x3)]) w :=
  vBuild_ok (by kernel_rfl)
@[push_cast] theorem bld57_0_3_Codes7A {K : Value → World → Prop} {w : World} (x0 : ByteArray) (x3 : Int) : vBuild Try.prog 57 #[(0, (.string x0)), (3, (.int .i64 x3))] K w = K (.agg #[(.string x0), (.int .i64 0), (.int .i64 0), (.int .i64 x3)]) w :=
  vBuild_ok (by kernel_rfl)
@[push_cast] theorem bld60_0_1_2_Codes7A {K : Value → World → Prop} {w : World} (x0 : Int) (x1 : Int) (x2o : Option Addr) (x2n x2c : Nat) : vBuild Try.prog 60 #[(0, (.int .i64 x0)), (1, (.int .i64 x1)), (2, (.slice x2o x2n x2c))] K w = K (.agg #[(.int .i64 x0), (.int .i64 x1), (.slice x2o x2n x2c)]) w :=
  vBuild_ok (by kernel_rfl)
@[push_cast] theorem bld60_1_2_Codes7A {K : Value → World → Prop} {w : World} (x1 : Int) (x2o : Option Addr) (x2n x2c : Nat) : vBuild Try.prog 60 #[(1, (.int .i64 x1)), (2, (.slice x2o x2n x2c))] K w = K (.agg #[(.int .i64 0), (.int .i64 x1), (.slice x2o x2n x2c)]) w :=
  vBuild_ok (by kernel_rfl)
@[push_cast] theorem bld63__Codes7A {K : Value → World → Prop} {w : World}  : vBuild Try.prog 63 #[] K w = K (.agg #[(.int .i64 0), (.string ⟨#[]⟩)]) w :=
  vBuild_ok (by kernel_rfl)
end Go.Proofs.Ytnofalhkapmcnaa
end
section
set_option linter.unusedSimpArgs false
namespace Go.Vc
open Go
/-- Where the first one is; -1: there is none. -/
def idxI {α : Type} (p : α → Bool) (l : List α) : Int := if l.any p then ((l.findIdx p : Nat) : Int) else -1
theorem idxI_hit {α : Type} {p : α → Bool} {l : List α} {i : Nat} (hi : i < l.length) (hp : p l[i] = true) (hno : (l.take i).any p = false) : idxI p l = (i : Int) := by
  have ha : l.any p = true := List.any_eq_true.2 ⟨l[i], List.getElem_mem hi, hp⟩
  have hf : l.findIdx p = i := by
    rw [List.findIdx_eq hi]
    refine ⟨hp, fun j hj => ?_⟩
    cases h : p (l[j]'(by omega)) with
    | false => rfl
    | true =>
      have : (l.take i).any p = true := List.any_eq_true.2 ⟨l[j]'(by omega), List.mem_take_iff_getElem.2 ⟨j, by omega, rfl⟩, h⟩
      rw [hno] at this; cases this
  unfold idxI
  rw [ha, hf]; rfl
theorem idxI_miss {α : Type} {p : α → Bool} {l : List α} (h : l.any p = false) : idxI p l = -1 := by
  unfold idxI; rw [h]; rfl
theorem idxI_ge {α : Type} (p : α → Bool) (l : List α) : decide (0 ≤ idxI p l) = l.any p := by
  cases h : l.any p with
  | true => unfold idxI; rw [h]; exact decide_eq_true (by simp)
  | false => rw [idxI_miss h]; rfl
theorem any_step {α : Type} {p : α → Bool} {l : List α} {i : Nat} (hi : i < l.length) (hp : p l[i] = false) (hno : (l.take i).any p = false) : (l.take (i + 1)).any p = false := by
  rw [List.take_succ_eq_append_getElem hi, List.any_append, hno]
  simp [hp]
theorem idxI_or {α : Type} (p : α → Bool) (l : List α) : (idxI p l = -1 ∧ ∀ x ∈ l, p x = false) ∨ ∃ n : Nat, ∃ hn : n < l.length, idxI p l = (n : Int) ∧ p l[n] = true ∧ ∀ j (hj : j < l.length), j < n → p l[j] = false := by
  cases h : l.any p with
  | false =>
    refine .inl ⟨idxI_miss h, fun x hx => ?_⟩
    cases hp : p x with
    | false => rfl
    | true => rw [List.any_eq_true.2 ⟨x, hx, hp⟩] at h; cases h
  | true =>
    have hlt : l.findIdx p < l.length := List.findIdx_lt_length_of_exists (List.any_eq_true.1 h)
    refine .inr ⟨l.findIdx p, hlt, by unfold idxI; rw [h]; rfl, List.findIdx_getElem (w := hlt), fun j hj hjn => ?_⟩
    have := List.not_of_lt_findIdx hjn
    simpa using this
/-- A function value that tells of one value whether, in every later world. -/
def Prd (P : Program) (w : World) (g : FuncId) (lb : Array Value) (x : Value) (b : Bool) : Prop := ∀ w', Later w w' → FnC P g (#[x] ++ lb) w' fun v w'' => v = .bool b ∧ Later w' w''
theorem Prd.later {P : Program} {w w' : World} {g : FuncId} {lb : Array Value} {x : Value} {b : Bool} (h : Prd P w g lb x b) (hl : Later w w') : Prd P w' g lb x b := fun w2 l2 => h w2 (hl.trans l2)
@[push_cast] theorem app_nil_l (x : Array Value) : (#[] : Array Value) ++ x = x := by simp
end Go.Vc
namespace Go.Proofs.Ytnofalhkapmcnaa
open Go.Vc Go.Key
set_option maxRecDepth 100000
theorem sindex_c (v : Value) (l : List ByteArray) (x : ByteArray) (w : World) (h : StS w v l) : FnC Try.prog 81 #[v, .string x] w fun r w' => r = .int .i64 (idxI (fun y => decide (x = y)) l) ∧ w' = w := by
  obtain ⟨o, c, rfl, g1, g2, hm, g3⟩ := h.openM
  refine enter81 _ _ ?_
  unfold B81
  repeat' (first | (simp (disch := omega) only [push_cast, ↓reduceIte, zA, zG, zB, zH, zI, zC, zJ, zK, zL, zD, zE, zF, zM, zN, zO, zP, zQ, reduceCtorEq, not_true_eq_false, not_false_eq_true]) | (first | refine iE ?_ ?_ | refine iD ?_ ?_ | refine iQ ?_ ?_ | refine iV ?_ ?_) <;> intro _ | refine And.intro (by omega) ?_ | refine drawn_q ?_ | fail)
  refine vc_loop W81_0 (fun i : Nat => [(8, .int .i64 (i : Int))]) (fun i w' => i ≤ l.length ∧ w' = w ∧ (l.take i).any (fun y => decide (x = y)) = false) (fun i => l.length - i) 0 (by decide) ?_ ?_ ?_
  · simp (disch := omega) only [push_cast, ↓reduceIte, zA, zG, zB, zH, zI, zC, zJ, zK, zL, zD, zE, zF, zM, zN, zO, zP, zQ, reduceCtorEq, not_true_eq_false, not_false_eq_true]
    try rfl
  · exact ⟨Nat.zero_le _, rfl, by simp⟩
  rintro i uu _ ⟨hi, rfl, hno⟩
  by_cases hil : i < l.length
  · have hd : decide ((i : Int) < (l.length : Int)) = true := decide_eq_true (by omega)
    cases o with
    | none => have := (g3 rfl).1; rw [this] at hil; simp at hil
    | some la =>
    have hc := StS.atS hm hil
    by_cases hx : x = l[i]
    · have hd2 : decide (x = l[i]) = true := decide_eq_true hx
      rw [idxI_hit hil hd2 hno]
      repeat' (first | (simp (disch := omega) only [push_cast, ↓reduceIte, zA, zG, zB, zH, zI, zC, zJ, zK, zL, zD, zE, zF, zM, zN, zO, zP, zQ, reduceCtorEq, not_true_eq_false, not_false_eq_true, hd, hc, hd2]) | (first | refine iE ?_ ?_ | refine iD ?_ ?_ | refine iQ ?_ ?_ | refine iV ?_ ?_) <;> intro _ | refine And.intro (by omega) ?_ | refine drawn_q ?_ | fail)
      first | done | exact ⟨rfl, rfl⟩ | rfl | omega
    · have hd2 : decide (x = l[i]) = false := decide_eq_false hx
      repeat' (first | (simp (disch := omega) only [push_cast, ↓reduceIte, zA, zG, zB, zH, zI, zC, zJ, zK, zL, zD, zE, zF, zM, zN, zO, zP, zQ, reduceCtorEq, not_true_eq_false, not_false_eq_true, hd, hc, hd2]) | (first | refine iE ?_ ?_ | refine iD ?_ ?_ | refine iQ ?_ ?_ | refine iV ?_ ?_) <;> intro _ | refine And.intro (by omega) ?_ | refine drawn_q ?_ | fail)
      exact ⟨rfl, i + 1, by simp (disch := omega) only [push_cast, ↓reduceIte, zA, zG, zB, zH, zI, zC, zJ, zK, zL, zD, zE, zF, zM, zN, zO, zP, zQ, reduceCtorEq, not_true_eq_false, not_false_eq_true], ⟨by omega, rfl, any_step hil hd2 hno⟩, by dsimp only; omega⟩
  · have hd : decide ((i : Int) < (l.length : Int)) = false := decide_eq_false (by omega)
    rw [List.take_of_length_le (by omega)] at hno
    rw [idxI_miss hno]
    repeat' (first | (simp (disch := omega) only [push_cast, ↓reduceIte, zA, zG, zB, zH, zI, zC, zJ, zK, zL, zD, zE, zF, zM, zN, zO, zP, zQ, reduceCtorEq, not_true_eq_false, not_false_eq_true, hd]) | (first | refine iE ?_ ?_ | refine iD ?_ ?_ | refine iQ ?_ ?_ | refine iV ?_ ?_) <;> intro _ | refine And.intro (by omega) ?_ | refine drawn_q ?_ | fail)
    first | done | exact ⟨rfl, rfl⟩ | rfl | omega
theorem any_eq (x : ByteArray) (l : List ByteArray) : l.any (fun y => decide (x = y)) = inL x l := by
  unfold inL
  congr 1
  funext y
  exact decide_eq_decide.2 eq_comm
theorem scontains_c (v : Value) (l : List ByteArray) (x : ByteArray) (w : World) (h : StS w v l) : FnC Try.prog 38 #[v, .string x] w fun r w' => r = .bool (inL x l) ∧ w' = w := by
  obtain ⟨o, c, rfl, g1, g2, hm, g3⟩ := h.openM
  refine enter38 _ _ ?_
  unfold B38
  repeat' (first | (simp (disch := omega) only [push_cast, ↓reduceIte, zA, zG, zB, zH, zI, zC, zJ, zK, zL, zD, zE, zF, zM, zN, zO, zP, zQ, reduceCtorEq, not_true_eq_false, not_false_eq_true]) | (first | refine iE ?_ ?_ | refine iD ?_ ?_ | refine iQ ?_ ?_ | refine iV ?_ ?_) <;> intro _ | refine And.intro (by omega) ?_ | refine drawn_q ?_ | fail)
  refine (sindex_c _ l x w hm).mono ?_
  rintro _ w0 ⟨rfl, h0⟩; obtain rfl := h0.symm
  have e := idxI_ge (fun y => decide (x = y)) l
  rw [any_eq] at e
  repeat' (first | (simp (disch := omega) only [push_cast, ↓reduceIte, zA, zG, zB, zH, zI, zC, zJ, zK, zL, zD, zE, zF, zM, zN, zO, zP, zQ, reduceCtorEq, not_true_eq_false, not_false_eq_true, e]) | (first | refine iE ?_ ?_ | refine iD ?_ ?_ | refine iQ ?_ ?_ | refine iV ?_ ?_) <;> intro _ | refine And.intro (by omega) ?_ | refine drawn_q ?_ | fail)
theorem sindexF_c (v : Value) (l : List ByteArray) (g : FuncId) (lb : Array Value) (p : ByteArray → Bool) (w : World) (h : StS w v l) (hp : ∀ x ∈ l, Prd Try.prog w g lb (.string x) (p x)) : FnC Try.prog 80 #[v, .func (.func g) #[] lb] w fun r w' => r = .int .i64 (idxI p l) ∧ Later w w' := by
  obtain ⟨o, c, rfl, g1, g2, hm, g3⟩ := h.openM
  refine enter80 _ _ ?_
  unfold B80
  repeat' (first | (simp (disch := omega) only [push_cast, ↓reduceIte, zA, zG, zB, zH, zI, zC, zJ, zK, zL, zD, zE, zF, zM, zN, zO, zP, zQ, reduceCtorEq, not_true_eq_false, not_false_eq_true]) | (first | refine iE ?_ ?_ | refine iD ?_ ?_ | refine iQ ?_ ?_ | refine iV ?_ ?_) <;> intro _ | refine And.intro (by omega) ?_ | refine drawn_q ?_ | fail)
  refine vc_loop W80_0 (fun i : Nat => [(8, .int .i64 (i : Int))]) (fun i w' => i ≤ l.length ∧ Later w w' ∧ (l.take i).any p = false) (fun i => l.length - i) 0 (by decide) ?_ ?_ ?_
  · simp (disch := omega) only [push_cast, ↓reduceIte, zA, zG, zB, zH, zI, zC, zJ, zK, zL, zD, zE, zF, zM, zN, zO, zP, zQ, reduceCtorEq, not_true_eq_false, not_false_eq_true]
    try rfl
  · exact ⟨Nat.zero_le _, Later.refl _, by simp⟩
  rintro i uu w1 ⟨hi, l1, hno⟩
  by_cases hil : i < l.length
  · have hd : decide ((i : Int) < (l.length : Int)) = true := decide_eq_true (by omega)
    cases o with
    | none => have := (g3 rfl).1; rw [this] at hil; simp at hil
    | some la =>
    have hc := StS.atS (Sl.later hm l1) hil
    repeat' (first | (simp (disch := omega) only [push_cast, ↓reduceIte, zA, zG, zB, zH, zI, zC, zJ, zK, zL, zD, zE, zF, zM, zN, zO, zP, zQ, reduceCtorEq, not_true_eq_false, not_false_eq_true, hd, hc]) | (first | refine iE ?_ ?_ | refine iD ?_ ?_ | refine iQ ?_ ?_ | refine iV ?_ ?_) <;> intro _ | refine And.intro (by omega) ?_ | refine drawn_q ?_ | fail)
    refine (hp l[i] (List.getElem_mem hil) w1 l1).mono ?_
    rintro _ w2 ⟨rfl, l2⟩
    cases hx : p l[i] with
    | true =>
      rw [idxI_hit hil hx hno]
      repeat' (first | (simp (disch := omega) only [push_cast, ↓reduceIte, zA, zG, zB, zH, zI, zC, zJ, zK, zL, zD, zE, zF, zM, zN, zO, zP, zQ, reduceCtorEq, not_true_eq_false, not_false_eq_true]) | (first | refine iE ?_ ?_ | refine iD ?_ ?_ | refine iQ ?_ ?_ | refine iV ?_ ?_) <;> intro _ | refine And.intro (by omega) ?_ | refine drawn_q ?_ | fail)
      first | exact ⟨rfl, (l1.trans l2)⟩ | exact (l1.trans l2)
    | false =>
      repeat' (first | (simp (disch := omega) only [push_cast, ↓reduceIte, zA, zG, zB, zH, zI, zC, zJ, zK, zL, zD, zE, zF, zM, zN, zO, zP, zQ, reduceCtorEq, not_true_eq_false, not_false_eq_true]) | (first | refine iE ?_ ?_ | refine iD ?_ ?_ | refine iQ ?_ ?_ | refine iV ?_ ?_) <;> intro _ | refine And.intro (by omega) ?_ | refine drawn_q ?_ | fail)
      exact ⟨rfl, i + 1, by simp (disch := omega) only [push_cast, ↓reduceIte, zA, zG, zB, zH, zI, zC, zJ, zK, zL, zD, zE, zF, zM, zN, zO, zP, zQ, reduceCtorEq, not_true_eq_false, not_false_eq_true], ⟨by omega, l1.trans l2, any_step hil hx hno⟩, by dsimp only; omega⟩
  · have hd : decide ((i : Int) < (l.length : Int)) = false := decide_eq_false (by omega)
    rw [List.take_of_length_le (by omega)] at hno
    rw [idxI_miss hno]
    repeat' (first | (simp (disch := omega) only [push_cast, ↓reduceIte, zA, zG, zB, zH, zI, zC, zJ, zK, zL, zD, zE, zF, zM, zN, zO, zP, zQ, reduceCtorEq, not_true_eq_false, not_false_eq_true, hd]) | (first | refine iE ?_ ?_ | refine iD ?_ ?_ | refine iQ ?_ ?_ | refine iV ?_ ?_) <;> intro _ | refine And.intro (by omega) ?_ | refine drawn_q ?_ | fail)
    first | exact ⟨rfl, l1⟩ | exact l1
theorem scontainsF_c (v : Value) (l : List ByteArray) (g : FuncId) (lb : Array Value) (p : ByteArray → Bool) (w : World) (h : StS w v l) (hp : ∀ x ∈ l, Prd Try.prog w g lb (.string x) (p x)) : FnC Try.prog 36 #[v, .func (.func g) #[] lb] w fun r w' => r = .bool (l.any p) ∧ Later w w' := by
  obtain ⟨o, c, rfl, g1, g2, hm, g3⟩ := h.openM
  refine enter36 _ _ ?_
  unfold B36
  repeat' (first | (simp (disch := omega) only [push_cast, ↓reduceIte, zA, zG, zB, zH, zI, zC, zJ, zK, zL, zD, zE, zF, zM, zN, zO, zP, zQ, reduceCtorEq, not_true_eq_false, not_false_eq_true]) | (first | refine iE ?_ ?_ | refine iD ?_ ?_ | refine iQ ?_ ?_ | refine iV ?_ ?_) <;> intro _ | refine And.intro (by omega) ?_ | refine drawn_q ?_ | fail)
  refine (sindexF_c _ l g lb p w hm hp).mono ?_
  rintro _ w1 ⟨rfl, l1⟩
  have e := idxI_ge p l
  repeat' (first | (simp (disch := omega) only [push_cast, ↓reduceIte, zA, zG, zB, zH, zI, zC, zJ, zK, zL, zD, zE, zF, zM, zN, zO, zP, zQ, reduceCtorEq, not_true_eq_false, not_false_eq_true, e]) | (first | refine iE ?_ ?_ | refine iD ?_ ?_ | refine iQ ?_ ?_ | refine iV ?_ ?_) <;> intro _ | refine And.intro (by omega) ?_ | refine drawn_q ?_ | fail)
  first | exact ⟨rfl, l1⟩ | exact l1
theorem sclone_c (v : Value) (l : List ByteArray) (w : World) (h : StS w v l) (hb : l.length ≤ 100000000) : FnC Try.prog 75 #[v] w fun r w' => OwnS w' w.heap.size r l ∧ Later w w' := by
  obtain ⟨o, c, rfl, g1, g2, hm, g3⟩ := h.openM
  refine enter75 _ ?_
  unfold B75
  cases o with
  | none =>
    have := (g3 rfl).1
    subst this
    repeat' (first | (simp (disch := omega) only [push_cast, ↓reduceIte, zA, zG, zB, zH, zI, zC, zJ, zK, zL, zD, zE, zF, zM, zN, zO, zP, zQ, reduceCtorEq, not_true_eq_false, not_false_eq_true]) | (first | refine iE ?_ ?_ | refine iD ?_ ?_ | refine iQ ?_ ?_ | refine iV ?_ ?_) <;> intro _ | refine And.intro (by omega) ?_ | refine drawn_q ?_ | fail)
    first | exact ⟨(own_nil w w.heap.size 9 1), (Later.refl _)⟩ | exact (Later.refl _)
  | some a =>
    repeat' (first | (simp (disch := omega) only [push_cast, ↓reduceIte, zA, zG, zB, zH, zI, zC, zJ, zK, zL, zD, zE, zF, zM, zN, zO, zP, zQ, reduceCtorEq, not_true_eq_false, not_false_eq_true]) | (first | refine iE ?_ ?_ | refine iD ?_ ?_ | refine iQ ?_ ?_ | refine iV ?_ ?_) <;> intro _ | refine And.intro (by omega) ?_ | refine drawn_q ?_ | fail)
    have l1 := later_alloc w (.cells #[] 9)
    have hsn := StS.n (Sl.later hm l1)
    refine vAppend_fresh Try.underlying22 ti9 rfl (by decide) hsn (by unfold maxLen; omega) (by omega) ?_
    intro v' w'' h0 h1
    rcases Nat.eq_zero_or_pos l.length with hz | hz
    · obtain ⟨rfl, rfl⟩ := h0 hz
      have : l = [] := List.length_eq_zero_iff.1 hz
      subst this
      have h26o : OwnS (w.alloc (.cells #[] 9)) w.heap.size (.slice (some ⟨w.heap.size, 0, none⟩) 0 0) [] := own_lit w [] _ 1 0 rfl (by unfold maxLen; omega) (Nat.le_refl _)
      repeat' (first | (simp (disch := omega) only [push_cast, ↓reduceIte, zA, zG, zB, zH, zI, zC, zJ, zK, zL, zD, zE, zF, zM, zN, zO, zP, zQ, reduceCtorEq, not_true_eq_false, not_false_eq_true]) | (first | refine iE ?_ ?_ | refine iD ?_ ?_ | refine iQ ?_ ?_ | refine iV ?_ ?_) <;> intro _ | refine And.intro (by omega) ?_ | refine drawn_q ?_ | fail)
      first | exact ⟨h26o, l1⟩ | exact l1
    · obtain ⟨ho, hll⟩ := h1 hz
      repeat' (first | (simp (disch := omega) only [push_cast, ↓reduceIte, zA, zG, zB, zH, zI, zC, zJ, zK, zL, zD, zE, zF, zM, zN, zO, zP, zQ, reduceCtorEq, not_true_eq_false, not_false_eq_true]) | (first | refine iE ?_ ?_ | refine iD ?_ ?_ | refine iQ ?_ ?_ | refine iV ?_ ?_) <;> intro _ | refine And.intro (by omega) ?_ | refine drawn_q ?_ | fail)
      first | exact ⟨(own_base ho l1.size), (l1.trans hll)⟩ | exact (l1.trans hll)
end Go.Proofs.Ytnofalhkapmcnaa
end
section
namespace Go.Vc
open Go Go.RowKit
section
variable {P : Program}
/-- 'clear' of a slice. -/
theorem vX_clear {t e ty : TypeId} {x : Operand} {σ : Env} {w : World} {K : Value → World → Prop} {z : Value} {s b : Nat} {a : Addr} {m c : Nat} (ht : P.underlying t = some (.slice e)) (hi : (P.info? e).map (fun i => (i.zero, i.size, i.bytes)) = some (some z, s, b))
    (hx : ev σ x = .slice (some a) m c) (hm : 0 < m) (h1 : ∀ u ∈ (Builtin.zeroCells z.cells m).toList, u.oneCell' = true) (hc : canAll w a (Builtin.zeroCells z.cells m).toList) (hk : K (.tuple #[]) (storeAll w a (Builtin.zeroCells z.cells m).toList)) :
    vX P (.call ⟨.builtin .clear, #[x], #[t]⟩) ty σ w K := by
  obtain ⟨i, hi1, hz, hsi, hbi⟩ := info_parts hi
  have hst := run_storeAll (P := P) (Builtin.zeroCells z.cells m).toList a 0 w h1 (by rw [addr_add_zero]; exact hc)
  rw [addr_add_zero] at hst
  have hzv : (zeroValue e).run P w = .ok z w := by simp [zeroValue, typeInfo, hi1, hz]
  obtain ⟨k, rfl⟩ : ∃ k, m = k + 1 := ⟨m - 1, by omega⟩
  have hrun : (Builtin.clear_ #[t] ty #[.slice (some a) (k + 1) c]).run P w = .ok (.tuple #[]) (storeAll w a (Builtin.zeroCells z.cells (k + 1)).toList) := by
    simp [Builtin.clear_, run_underlying ht, hzv, hst]
  have he : exe P (.call ⟨.builtin .clear, #[x], #[t]⟩) ty σ w = (val (Builtin.clear_ #[t] ty #[ev σ x])).run P w := by
    have : execOp (ev σ) { dst := none, op := .call ⟨.builtin .clear, #[x], #[t]⟩, type := ty, pos := "", after := #[], guard := none } = val (Builtin.clear_ #[t] ty #[ev σ x]) := by
      rw [run_maxmin .clear ⟨.builtin .clear, #[x], #[t]⟩ rfl]
      have e : Array.map (ev σ) #[x] = #[ev σ x] := by simp
      show builtin .clear #[t] ty _ (Array.map (ev σ) #[x]) = _
      rw [e]
      rfl
    unfold exe; rw [this]
  unfold vX
  rw [he, hx, run_val_pure hrun]
  exact hk
end
theorem wrs_take : ∀ (new : List Value) (xs : List Value) (p : Nat), (wrs xs p new).take p = xs.take p
  | [], xs, p => rfl
  | v :: vs, xs, p => by
    rw [wrs]
    have h2 := congrArg (List.take p) (wrs_take vs (xs.set p v) (p + 1))
    rw [List.take_take, List.take_take, Nat.min_eq_left (by omega)] at h2
    rw [h2, List.take_set_of_le (Nat.le_refl _)]
section
variable {α : Type} {enc : α → List Value} {k : Nat}
end
theorem filter_step {α : Type} {l : List α} {p : α → Bool} {j : Nat} (hj : j < l.length) : (l.take (j + 1)).filter p = (l.take j).filter p ++ (if p l[j] = true then [l[j]] else []) := by
  rw [take_snoc l j hj, List.filter_append]
  congr 1
  by_cases h : p l[j] = true
  · rw [if_pos h, List.filter_cons_of_pos h]; rfl
  · rw [if_neg h, List.filter_cons_of_neg h]; rfl
end Go.Vc
end
section
set_option linter.unusedSimpArgs false
namespace Go.Proofs.Ytnofalhkapmcnaa
open Go.Vc Go.Key
set_option maxRecDepth 100000
theorem zeroS_one (m : Nat) : (∀ u ∈ (Builtin.zeroCells (Value.string ⟨#[]⟩).cells m).toList, u.oneCell' = true) ∧ (Builtin.zeroCells (Value.string ⟨#[]⟩).cells m).toList.length = m := by
  constructor
  · intro u hu
    simp only [Builtin.zeroCells, Array.toList_map, List.mem_map] at hu
    obtain ⟨i, _, rfl⟩ := hu
    have hs : (Value.string ⟨#[]⟩).cells.size = 1 := rfl
    rw [hs, Nat.mod_one]
    rfl
  · simp only [Builtin.zeroCells, Array.toList_map, List.length_map, Array.length_toList, Array.size_range]
    show m * 1 = m
    omega
set_option maxHeartbeats 1000000 in
theorem sdelete_c (B : Nat) (v : Value) (es : List ByteArray) (g : FuncId) (lb : Array Value) (p : ByteArray → Bool) (w0 w : World) (hl : Later w0 w) (hB : w0.heap.size ≤ B) (ho : OwnS w B v es) (hp : ∀ x ∈ es, Prd Try.prog w0 g lb (.string x) (p x)) (h63 : es.length ≤ 1000000) :
    FnC Try.prog 74 #[v, .func (.func g) #[] lb] w fun r w' => StS w' r (es.filter fun x => !p x) ∧ Later w0 w' := by
  have hst := OwnS.st ho
  obtain ⟨o, c, rfl, g1, g2, hm, g3⟩ := hst.openM
  refine enter74 _ _ ?_
  unfold B74
  repeat' (first | (simp (disch := omega) only [push_cast, ↓reduceIte, zA, zG, zB, zH, zI, zC, zJ, zK, zL, zD, zE, zF, zM, zN, zO, zP, zQ, reduceCtorEq, not_true_eq_false, not_false_eq_true]) | (first | refine iE ?_ ?_ | refine iD ?_ ?_ | refine iQ ?_ ?_ | refine iV ?_ ?_) <;> intro _ | refine And.intro (by omega) ?_ | refine drawn_q ?_ | fail)
  refine (sindexF_c _ es g lb p w hm (fun x hx => (hp x hx).later hl)).mono ?_
  rintro _ w1 ⟨rfl, l1⟩
  have l01 := hl.trans l1
  rcases idxI_or p es with ⟨he, hall⟩ | ⟨n, hn, he, hpn, hbef⟩
  · rw [he]
    have e : (es.filter fun x => !p x) = es := List.filter_eq_self.2 fun x hx => by simp [hall x hx]
    rw [e]
    repeat' (first | (simp (disch := omega) only [push_cast, ↓reduceIte, zA, zG, zB, zH, zI, zC, zJ, zK, zL, zD, zE, zF, zM, zN, zO, zP, zQ, reduceCtorEq, not_true_eq_false, not_false_eq_true]) | (first | refine iE ?_ ?_ | refine iD ?_ ?_ | refine iQ ?_ ?_ | refine iV ?_ ?_) <;> intro _ | refine And.intro (by omega) ?_ | refine drawn_q ?_ | fail)
    first | exact ⟨(Sl.later hm l1), l01⟩ | exact l01
  · rw [he]
    cases o with
    | none => have := (g3 rfl).1; rw [this] at hn; simp at hn
    | some a =>
    obtain ⟨gr, rfl, hgr, _⟩ := own_writes ho
    have hpre : (es.take (n + 1)).filter (fun x => !p x) = es.take n := by
      rw [filter_step hn, if_neg (by rw [hpn]; simp), List.append_nil]
      exact List.filter_eq_self.2 fun x hx => by
        obtain ⟨j, hj, rfl⟩ := List.getElem_of_mem hx
        rw [List.length_take] at hj
        rw [List.getElem_take]
        simp [hbef j (by omega) (by omega)]
    repeat' (first | (simp (disch := omega) only [push_cast, ↓reduceIte, zA, zG, zB, zH, zI, zC, zJ, zK, zL, zD, zE, zF, zM, zN, zO, zP, zQ, reduceCtorEq, not_true_eq_false, not_false_eq_true]) | (first | refine iE ?_ ?_ | refine iD ?_ ?_ | refine iQ ?_ ?_ | refine iV ?_ ?_) <;> intro _ | refine And.intro (by omega) ?_ | refine drawn_q ?_ | fail)
    refine vc_loop W74_0 (fun q : Nat × Nat => [(5, .int .i64 (q.1 : Int)), (6, .int .i64 (q.2 : Int))])
      (fun q w' => q.1 < q.2 ∧ q.2 ≤ es.length ∧ Later w0 w' ∧ ∃ cur : List ByteArray, cur.length = es.length ∧ OwnS w' B (.slice (some ⟨gr, 0, none⟩) es.length c) cur ∧ cur.take q.1 = (es.take q.2).filter (fun x => !p x) ∧ cur.drop q.2 = es.drop q.2) (fun q => es.length - q.2) (n, n + 1) (by decide) ?_ ?_ ?_
    · simp (disch := omega) only [push_cast, ↓reduceIte, zA, zG, zB, zH, zI, zC, zJ, zK, zL, zD, zE, zF, zM, zN, zO, zP, zQ, reduceCtorEq, not_true_eq_false, not_false_eq_true]
    · exact ⟨by dsimp only; omega, by dsimp only; omega, l01, es, rfl, own_later ho l1, by dsimp only; exact hpre.symm, rfl⟩
    rintro ⟨i, j⟩ uu w2 ⟨hij, hj, l2, cur, hcl, hO, hT, hD⟩
    dsimp only at hij hj hT hD
    by_cases hlt : j < es.length
    · have hlt' : j < cur.length := by omega
      have hcur : cur[j] = es[j] := by
        have := congrArg (fun l => l[0]?) hD
        simp only [List.getElem?_drop, Nat.add_zero] at this
        rw [List.getElem?_eq_getElem hlt', List.getElem?_eq_getElem hlt] at this
        exact Option.some.inj this
      have f1 := StS.atS (OwnS.st hO) hlt'
      rw [hcur] at f1
      have hstep := filter_step (p := fun x => !p x) hlt
      have hpx := hp es[j] (List.getElem_mem _)
      have hD' : cur.drop (j + 1) = es.drop (j + 1) := by
        have := congrArg (List.drop 1) hD
        simpa [List.drop_drop] using this
      generalize es[j] = x at *
      rw [addr_add_eq, Nat.zero_add] at f1
      have t1 : (i : Int).toNat = i := Int.toNat_natCast _
      repeat' (first | (simp (disch := omega) only [push_cast, ↓reduceIte, zA, zG, zB, zH, zI, zC, zJ, zK, zL, zD, zE, zF, zM, zN, zO, zP, zQ, reduceCtorEq, not_true_eq_false, not_false_eq_true, f1, addr_add_eq, Nat.zero_add]) | (first | refine iE ?_ ?_ | refine iD ?_ ?_ | refine iQ ?_ ?_ | refine iV ?_ ?_) <;> intro _ | refine And.intro (by omega) ?_ | refine drawn_q ?_ | fail)
      refine (hpx w2 l2).mono ?_
      rintro _ w4 ⟨rfl, l4⟩
      have l24 := l2.trans l4
      cases hx : p x with
      | true =>
        repeat' (first | (simp (disch := omega) only [push_cast, ↓reduceIte, zA, zG, zB, zH, zI, zC, zJ, zK, zL, zD, zE, zF, zM, zN, zO, zP, zQ, reduceCtorEq, not_true_eq_false, not_false_eq_true]) | (first | refine iE ?_ ?_ | refine iD ?_ ?_ | refine iQ ?_ ?_ | refine iV ?_ ?_) <;> intro _ | refine And.intro (by omega) ?_ | refine drawn_q ?_ | fail)
        refine ⟨rfl, (i, j + 1), by simp (disch := omega) only [push_cast, ↓reduceIte, zA, zG, zB, zH, zI, zC, zJ, zK, zL, zD, zE, zF, zM, zN, zO, zP, zQ, reduceCtorEq, not_true_eq_false, not_false_eq_true], ⟨by dsimp only; omega, by dsimp only; omega, l24, cur, hcl, own_later hO l4, ?_, hD'⟩, by dsimp only; omega⟩
        dsimp only
        rw [hstep, if_neg (by simp [hx]), List.append_nil, hT]
      | false =>
        have hO4 := own_later hO l4
        obtain ⟨o5, ⟨y, hy⟩, hfz⟩ := own_set (i := i) hO4 (by omega) (.string x)
        have l5 : Later w0 (w4.setCell ⟨gr, i, none⟩ (.string x)) := l24.setCell (by dsimp only; omega) _
        repeat' (first | (simp (disch := omega) only [push_cast, ↓reduceIte, zA, zG, zB, zH, zI, zC, zJ, zK, zL, zD, zE, zF, zM, zN, zO, zP, zQ, reduceCtorEq, not_true_eq_false, not_false_eq_true, hy, hfz, addr_add_eq, Nat.zero_add]) | (first | refine iE ?_ ?_ | refine iD ?_ ?_ | refine iQ ?_ ?_ | refine iV ?_ ?_) <;> intro _ | refine And.intro (by omega) ?_ | refine drawn_q ?_ | fail)
        generalize w4.setCell ⟨gr, i, none⟩ (.string x) = w5 at *
        refine ⟨rfl, (i + 1, j + 1), by simp (disch := omega) only [push_cast, ↓reduceIte, zA, zG, zB, zH, zI, zC, zJ, zK, zL, zD, zE, zF, zM, zN, zO, zP, zQ, reduceCtorEq, not_true_eq_false, not_false_eq_true], ⟨by dsimp only; omega, by dsimp only; omega, l5, cur.set i x, by simp [hcl], ?_, ?_, ?_⟩, by dsimp only; omega⟩
        · unfold OwnS
          rw [List.length_set, List.map_set]
          exact o5
        · dsimp only
          rw [hstep, if_pos (by simp [hx]), ← hT]
          rw [List.take_set, List.take_add_one, List.getElem?_eq_getElem (show i < cur.length by omega)]
          simp only [Option.toList_some]
          rw [List.set_append_right _ _ (by simp; omega)]
          have : (i - (cur.take i).length) = 0 := by simp; omega
          rw [this]
          simp
        · dsimp only
          rw [List.drop_set_of_lt (by omega)]
          exact hD'
    · have hje : j = es.length := by omega
      subst hje
      rw [List.take_length] at hT
      obtain ⟨g', hg', hBg, _, ⟨cs, hb⟩, hcan⟩ := own_writes hO
      obtain rfl : gr = g' := congrArg Addr.block hg'
      obtain ⟨hz1, hz2⟩ := zeroS_one (es.length - i)
      have em : ((es.length : Int) - (i : Int)).toNat = es.length - i := by omega
      have ea : slAddr (some ⟨gr, 0, none⟩) (i : Int) (c : Int) 1 = some ⟨gr, i, none⟩ := by
        unfold slAddr
        rw [if_neg (by omega), Option.map_some, addr_add_eq, Nat.zero_add, Int.toNat_natCast, Nat.mul_one]
      repeat' (first | (simp (disch := omega) only [push_cast, ↓reduceIte, zA, zG, zB, zH, zI, zC, zJ, zK, zL, zD, zE, zF, zM, zN, zO, zP, zQ, reduceCtorEq, not_true_eq_false, not_false_eq_true]) | (first | refine iE ?_ ?_ | refine iD ?_ ?_ | refine iQ ?_ ?_ | refine iV ?_ ?_) <;> intro _ | refine And.intro (by omega) ?_ | refine drawn_q ?_ | fail)
      refine vX_clear (m := es.length - i) (a := ⟨gr, i, none⟩) (c := ((c : Int) - (i : Int)).toNat) Try.underlying22 (z := .string ⟨#[]⟩) ti9 (by simp (disch := omega) only [push_cast, ↓reduceIte, zA, zG, zB, zH, zI, zC, zJ, zK, zL, zD, zE, zF, zM, zN, zO, zP, zQ, reduceCtorEq, not_true_eq_false, not_false_eq_true, em, ea]) (by omega) hz1 (hcan _ _ (by rw [hz2]; omega)) ?_
      obtain ⟨q1, q2⟩ := own_storeAll (Builtin.zeroCells (Value.string ⟨#[]⟩).cells (es.length - i)).toList w2 i (cur.map Value.string) hO (by rw [hz2]; omega)
      generalize storeAll w2 ⟨gr, i, none⟩ (Builtin.zeroCells (Value.string ⟨#[]⟩).cells (es.length - i)).toList = w3 at *
      have l3 : Later w0 w3 := Chg.later l2 q2 (by intro q hq; rw [List.mem_singleton.1 hq]; omega)
      rw [hcl] at q1
      have hs := SlN.preN (SlN.of_own q1) (k := i) (by omega)
      rw [Nat.mul_one, wrs_take, ← List.map_take, hT] at hs
      have hlen : (es.filter (fun x => !p x)).length = i := by rw [← hT, List.length_take]; omega
      have hRec : StS w3 (.slice (some ⟨gr, 0, none⟩) i c) (es.filter (fun x => !p x)) := by
        unfold StS Sl
        rw [List.length_map, hlen]
        exact hs
      repeat' (first | (simp (disch := omega) only [push_cast, ↓reduceIte, zA, zG, zB, zH, zI, zC, zJ, zK, zL, zD, zE, zF, zM, zN, zO, zP, zQ, reduceCtorEq, not_true_eq_false, not_false_eq_true]) | (first | refine iE ?_ ?_ | refine iD ?_ ?_ | refine iQ ?_ ?_ | refine iV ?_ ?_) <;> intro _ | refine And.intro (by omega) ?_ | refine drawn_q ?_ | fail)
      first | exact ⟨hRec, l3⟩ | exact l3
end Go.Proofs.Ytnofalhkapmcnaa
end
