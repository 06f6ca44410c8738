/- Contracts: schemas, rows of them: the document's. -/
import Derived.Shelf.GgClosure.StringsRunes
import Derived.Shelf.Strings.IndexAnyAll
import Derived.Shelf.Strings.FuncGrows
import Derived.Shelf.Slices.Turned
import Derived.Test.YthihbgpaoldbjaaProg
import Derived.Laws.RangeAny
import Derived.Test.YthihbgpaoldbjaaPartH
set_option linter.all false
open Nat renaming reduceEqDiff → zA, reducePow → zB, reduceMul → zC, reduceAdd → zD, reduceSub → zE, reduceLeDiff → zF
open Int renaming reduceToNat → zG, reducePow → zH, reduceNeg → zI, reduceMul → zJ, reduceAdd → zK, reduceSub → zL, reduceLT → zM, reduceLE → zN, reduceEq → zO, reduceMod → zP, reduceDiv → zQ
section
set_option linter.unusedSimpArgs false
namespace Go.Proofs.Ythihbgpaoldbjaa
open Go.Vc Go.Key
set_option maxRecDepth 100000
theorem box2 (w : World) (a b : Value) (e : TypeId) : Later w (w.alloc (.cells #[a, b] e)) ∧ (w.alloc (.cells #[a, b] e)).heap.size = w.heap.size + 1 ∧ ∀ w', Later (w.alloc (.cells #[a, b] e)) w' → w'.cell? ⟨w.heap.size, 0, none⟩ = some a ∧ w'.cell? ⟨w.heap.size, 1, none⟩ = some b ∧ cellsAt w' ⟨w.heap.size, 0, none⟩ 2 = some [a, b] := by
  refine ⟨later_alloc _ _, World.size_alloc _ _, fun w' hl => ?_⟩
  have := (Blk.new w #[a, b] e).chg (Chg.of_later (ks := []) hl) (by simp)
  exact ⟨this.cell 0, this.cell 1, Blk.cellsAt (l := [a, b]) this⟩
/-- Texts, whose lengths are numbers. -/
def StZ (l : List ByteArray) : Prop := ∀ s ∈ l, s.size ≤ 9223372036854775807
structure ScIs (w : World) (dv mv : Value) (d m : List ByteArray) : Prop where
  dS : StS w dv d
  mS : StS w mv m
  dZ : StZ d
  mZ : StZ m
theorem ScIs.later {w w' : World} {dv mv : Value} {d m : List ByteArray} (h : ScIs w dv mv d m) (hl : Later w w') : ScIs w' dv mv d m := ⟨Sl.later h.dS hl, Sl.later h.mS hl, h.dZ, h.mZ⟩
def scV (dv mv : Value) : Value := .agg #[dv, mv]
def ScOk (d m : List ByteArray) : Prop := (∀ x ∈ d ++ m, NmOk x) ∧ (d ++ m).Pairwise (fun x y => x ≠ y) ∧ 1 ≤ d.length ∧ d.length ≤ 6 ∧ m.length ≤ 4
instance (d m : List ByteArray) : Decidable (ScOk d m) := inferInstanceAs (Decidable ((∀ x ∈ d ++ m, NmOk x) ∧ (d ++ m).Pairwise (fun x y => x ≠ y) ∧ 1 ≤ d.length ∧ d.length ≤ 6 ∧ m.length ≤ 4))
theorem StS.n {w : World} {v : Value} {l : List ByteArray} (h : StS w v l) : SlN w 1 v l.length (l.map Value.string) := by
  have := h
  unfold StS Sl at this
  rwa [List.length_map] at this
/-- Texts behind texts of the call's own. -/
theorem vAppend_ss {w : World} {K : Value → World → Prop} {ty : TypeId} {B : Nat} {v x : Value} {l r : List ByteArray} (hown : OwnS w B v l) (hx : StS w x r) (h63 : l.length + r.length ≤ 100000000) (hbase : B ≤ w.heap.size)
    (hK : ∀ v' w', OwnS w' B v' (l ++ r) → w.grownBy w' v.ownBlock → (v'.ownBlock = v.ownBlock ∨ v'.ownBlock = some w.heap.size) → K v' w') : vAppend Try.prog #[22, 22] ty #[v, x] K w := by
  refine vAppend_at Try.underlying22 ti9 rfl (by decide) hown hx.n ?_ (by unfold maxLen; omega) (by omega) hbase ?_
  · intro u hu
    obtain ⟨p, hp, rfl⟩ := List.mem_map.1 hu
    rfl
  · intro v' w' ho hg hs
    refine hK v' w' ?_ hg hs
    unfold OwnS
    simpa using ho
theorem ok_step {L : List ByteArray} {i : Nat} (hi : i < L.length) (hd : (L.take i).Pairwise (fun x y => x ≠ y)) (hn : ∀ j (h : j < L.length), j < i → L[j] ≠ L[i]) : (L.take (i + 1)).Pairwise (fun x y => x ≠ y) := by
  rw [take_snoc L i hi, List.pairwise_append]
  refine ⟨hd, by simp, fun a ha b hb => ?_⟩
  rw [List.mem_singleton.1 hb]
  obtain ⟨j, hj, rfl⟩ := List.getElem_of_mem ha
  rw [List.length_take] at hj
  rw [List.getElem_take]
  exact hn j (by omega) (by omega)
theorem dschema_c (dv mv : Value) (d m : List ByteArray) (w : World) (h : ScIs w dv mv d m) (fd : d.length ≤ 1000) (fm : m.length ≤ 1000) : FnC Try.prog 39 #[scV dv mv] w fun r w' => r = .bool (decide (ScOk d m)) ∧ Later w w' := by
  unfold scV
  obtain ⟨od, cd, hdv⟩ := Sl.slice h.dS
  obtain ⟨om, cm, hmv⟩ := Sl.slice h.mS
  rw [List.length_map] at hdv hmv
  refine enter39 _ ?_
  unfold B39
  obtain ⟨l1, s1, F⟩ := box2 w dv mv 24
  have eca : (Value.agg #[dv, mv]).cells = #[dv, mv] := rfl
  repeat' (first | (simp (disch := omega) only [push_cast, ↓reduceIte, zA, zG, zB, zH, zI, zC, zJ, zK, zL, zD, zE, zF, zM, zN, zO, zP, zQ, reduceCtorEq, not_true_eq_false, not_false_eq_true, eca, s1]) | (first | refine vIfE_of ?_ ?_ | refine vIfD_of ?_ ?_ | refine vIfQ_of ?_ ?_ | refine vIfV_of ?_ ?_) <;> intro _ | refine And.intro (by omega) ?_ | fail)
  generalize w.alloc (.cells #[dv, mv] 24) = w1 at *
  obtain ⟨a0, a1, _⟩ := F w1 (Later.refl _)
  have h1 := h.later l1
  refine drawn_k 6 ?_
  repeat' (first | (simp (disch := omega) only [push_cast, ↓reduceIte, zA, zG, zB, zH, zI, zC, zJ, zK, zL, zD, zE, zF, zM, zN, zO, zP, zQ, reduceCtorEq, not_true_eq_false, not_false_eq_true, a0, a1, addr_add_eq, Nat.zero_add]) | (first | refine vIfE_of ?_ ?_ | refine vIfD_of ?_ ?_ | refine vIfQ_of ?_ ?_ | refine vIfV_of ?_ ?_) <;> intro _ | refine And.intro (by omega) ?_ | fail)
  refine nB_of _ (Lit0 w1.heap.size) (stb_lit0 _ _) (fun w' hl => ?_) ?_
  · repeat' (first | (simp (disch := omega) only [push_cast, ↓reduceIte, zA, zG, zB, zH, zI, zC, zJ, zK, zL, zD, zE, zF, zM, zN, zO, zP, zQ, reduceCtorEq, not_true_eq_false, not_false_eq_true]) | (first | refine vIfE_of ?_ ?_ | refine vIfD_of ?_ ?_ | refine vIfQ_of ?_ ?_ | refine vIfV_of ?_ ?_) <;> intro _ | refine And.intro (by omega) ?_ | fail)
    exact ⟨later_alloc _ _, ⟨_, rfl⟩, own_lit w' [] _ 1 0 rfl (by unfold maxLen; omega) hl.size⟩
  repeat' (first | (simp (disch := omega) only [push_cast, ↓reduceIte, zA, zG, zB, zH, zI, zC, zJ, zK, zL, zD, zE, zF, zM, zN, zO, zP, zQ, reduceCtorEq, not_true_eq_false, not_false_eq_true, a0, a1, addr_add_eq, Nat.zero_add]) | (first | refine vIfE_of ?_ ?_ | refine vIfD_of ?_ ?_ | refine vIfQ_of ?_ ?_ | refine vIfV_of ?_ ?_) <;> intro _ | refine And.intro (by omega) ?_ | fail)
  refine nR_app (fun v w' => OwnS w' w1.heap.size v d) (stb_ownS _ _ _) (fun σ' w' hl hp => ?_) ?_
  · obtain ⟨hp26, hp28, _⟩ := hp
    obtain ⟨⟨lb, h26⟩, h26o⟩ : Lit0 w1.heap.size (σ' 7) w' := hp26
    have h28 : σ' 9 = dv := hp28
    have hsn := (h1.later hl).dS.n
    rw [h26] at h26o
    repeat' (first | (simp (disch := omega) only [push_cast, ↓reduceIte, zA, zG, zB, zH, zI, zC, zJ, zK, zL, zD, zE, zF, zM, zN, zO, zP, zQ, reduceCtorEq, not_true_eq_false, not_false_eq_true, h28, h26]) | (first | refine vIfE_of ?_ ?_ | refine vIfD_of ?_ ?_ | refine vIfQ_of ?_ ?_ | refine vIfV_of ?_ ?_) <;> intro _ | refine And.intro (by omega) ?_ | fail)
    refine vAppend_fresh Try.underlying22 ti9 rfl (by decide) hsn (by unfold maxLen; omega) (by omega) ?_
    intro v' w'' h0 h1
    rcases Nat.eq_zero_or_pos d.length with hz | hz
    · obtain ⟨rfl, rfl⟩ := h0 hz
      have : d = [] := List.length_eq_zero_iff.1 hz
      rw [this]
      exact ⟨Later.refl _, h26o⟩
    · obtain ⟨ho, hll⟩ := h1 hz
      exact ⟨hll, own_base ho hl.size⟩
  repeat' (first | (simp (disch := omega) only [push_cast, ↓reduceIte, zA, zG, zB, zH, zI, zC, zJ, zK, zL, zD, zE, zF, zM, zN, zO, zP, zQ, reduceCtorEq, not_true_eq_false, not_false_eq_true, a0, a1, addr_add_eq, Nat.zero_add]) | (first | refine vIfE_of ?_ ?_ | refine vIfD_of ?_ ?_ | refine vIfQ_of ?_ ?_ | refine vIfV_of ?_ ?_) <;> intro _ | refine And.intro (by omega) ?_ | fail)
  rintro w2 l2 X hX _ _
  refine vAppend_ss hX (h1.later l2).mS (by omega) l2.size ?_
  intro v3 w3 ho3 hg3 _
  have l13 := l2.appended hX (Nat.le_refl _) hg3
  have hL := Sl.of_own ho3
  have hLn : (d ++ m).length = d.length + m.length := List.length_append
  have hZ : StZ (d ++ m) := fun s hs => by
    rcases List.mem_append.1 hs with hs | hs
    · exact h.dZ s hs
    · exact h.mZ s hs
  have hL : StS w3 v3 (d ++ m) := hL
  have hOk : ScOk d m = ((∀ x ∈ d ++ m, NmOk x) ∧ (d ++ m).Pairwise (fun x y => x ≠ y) ∧ 1 ≤ d.length ∧ d.length ≤ 6 ∧ m.length ≤ 4) := rfl
  generalize d ++ m = L at *
  obtain ⟨o3, c3, rfl⟩ := Sl.slice hL
  rw [List.length_map] at hL ⊢
  clear hX ho3 hg3
  repeat' (first | (simp (disch := omega) only [push_cast, ↓reduceIte, zA, zG, zB, zH, zI, zC, zJ, zK, zL, zD, zE, zF, zM, zN, zO, zP, zQ, reduceCtorEq, not_true_eq_false, not_false_eq_true]) | (first | refine vIfE_of ?_ ?_ | refine vIfD_of ?_ ?_ | refine vIfQ_of ?_ ?_ | refine vIfV_of ?_ ?_) <;> intro _ | refine And.intro (by omega) ?_ | refine drawn_q ?_ | fail)
  refine vc_loop W39_0 (fun i : Nat => [(2, .bool false), (4, .int .i64 (i : Int))])
    (fun i w' => i ≤ L.length ∧ Later w3 w' ∧ (∀ j (h : j < L.length), j < i → NmOk L[j]) ∧ (L.take i).Pairwise (fun x y => x ≠ y)) (fun i => L.length - i) 0 (by decide) ?_ ?_ ?_
  · simp (disch := omega) only [push_cast, ↓reduceIte, zA, zG, zB, zH, zI, zC, zJ, zK, zL, zD, zE, zF, zM, zN, zO, zP, zQ, reduceCtorEq, not_true_eq_false, not_false_eq_true]
  · exact ⟨by omega, Later.refl _, fun j _ hj => absurd hj (Nat.not_lt_zero _), by simp⟩
  rintro i uu w4 ⟨hi, l4, hA, hP⟩
  have l04 := (l1.trans l13).trans l4
  by_cases hlt : i < L.length
  · cases o3 with
    | none => have := (Sl.len hL).2.2.2 rfl; simp at this; rw [this.1] at hlt; simp at hlt
    | some a =>
    have hc := StS.atS (Sl.later hL l4) hlt
    repeat' (first | (simp (disch := omega) only [push_cast, ↓reduceIte, zA, zG, zB, zH, zI, zC, zJ, zK, zL, zD, zE, zF, zM, zN, zO, zP, zQ, reduceCtorEq, not_true_eq_false, not_false_eq_true, hc]) | (first | refine vIfE_of ?_ ?_ | refine vIfD_of ?_ ?_ | refine vIfQ_of ?_ ?_ | refine vIfV_of ?_ ?_) <;> intro _ | refine And.intro (by omega) ?_ | refine drawn_q ?_ | fail)
    refine (dname_c L[i] w4 (hZ _ (List.getElem_mem _))).mono ?_
    rintro _ w5 ⟨rfl, l5⟩
    by_cases hn : NmOk L[i]
    · rw [decide_eq_true hn]
      repeat' (first | (simp (disch := omega) only [push_cast, ↓reduceIte, zA, zG, zB, zH, zI, zC, zJ, zK, zL, zD, zE, zF, zM, zN, zO, zP, zQ, reduceCtorEq, not_true_eq_false, not_false_eq_true]) | (first | refine vIfE_of ?_ ?_ | refine vIfD_of ?_ ?_ | refine vIfQ_of ?_ ?_ | refine vIfV_of ?_ ?_) <;> intro _ | refine And.intro (by omega) ?_ | refine drawn_q ?_ | fail)
      refine vc_loop W39_1 (fun i : Nat => [(2, .bool false), (6, .int .i64 (i : Int))])
        (fun k w' => k ≤ i ∧ Later w5 w' ∧ (∀ j (h : j < L.length), j < k → L[j] ≠ L[i])) (fun k => i - k) 0 (by decide) ?_ ?_ ?_
      · simp (disch := omega) only [push_cast, ↓reduceIte, zA, zG, zB, zH, zI, zC, zJ, zK, zL, zD, zE, zF, zM, zN, zO, zP, zQ, reduceCtorEq, not_true_eq_false, not_false_eq_true]
      · exact ⟨by omega, Later.refl _, fun j _ hj => absurd hj (Nat.not_lt_zero _)⟩
      rintro k uu2 w6 ⟨hk, l6, hB⟩
      have l46 := l5.trans l6
      by_cases hki : k < i
      · have c1 := StS.atS (Sl.later hL (l4.trans l46)) (show k < L.length by omega)
        have c2 := StS.atS (Sl.later hL (l4.trans l46)) hlt
        by_cases he : L[k] = L[i]
        · have hno : decide (ScOk d m) = false := decide_eq_false fun h => by
            rw [hOk] at h
            exact List.pairwise_iff_getElem.1 h.2.1 k i (by omega) hlt hki he
          repeat' (first | (simp (disch := omega) only [push_cast, ↓reduceIte, zA, zG, zB, zH, zI, zC, zJ, zK, zL, zD, zE, zF, zM, zN, zO, zP, zQ, reduceCtorEq, not_true_eq_false, not_false_eq_true, c1, c2, he, decide_true]) | (first | refine vIfE_of ?_ ?_ | refine vIfD_of ?_ ?_ | refine vIfQ_of ?_ ?_ | refine vIfV_of ?_ ?_) <;> intro _ | refine And.intro (by omega) ?_ | refine drawn_q ?_ | fail)
          intro w7 l7
          repeat' (first | (simp (disch := omega) only [push_cast, ↓reduceIte, zA, zG, zB, zH, zI, zC, zJ, zK, zL, zD, zE, zF, zM, zN, zO, zP, zQ, reduceCtorEq, not_true_eq_false, not_false_eq_true]) | (first | refine vIfE_of ?_ ?_ | refine vIfD_of ?_ ?_ | refine vIfQ_of ?_ ?_ | refine vIfV_of ?_ ?_) <;> intro _ | refine And.intro (by omega) ?_ | refine drawn_q ?_ | fail)
          first | exact ⟨by rw [hno], ((l04.trans l46).trans l7)⟩ | exact ((l04.trans l46).trans l7)
        · repeat' (first | (simp (disch := omega) only [push_cast, ↓reduceIte, zA, zG, zB, zH, zI, zC, zJ, zK, zL, zD, zE, zF, zM, zN, zO, zP, zQ, reduceCtorEq, not_true_eq_false, not_false_eq_true, c1, c2, he, decide_false]) | (first | refine vIfE_of ?_ ?_ | refine vIfD_of ?_ ?_ | refine vIfQ_of ?_ ?_ | refine vIfV_of ?_ ?_) <;> intro _ | refine And.intro (by omega) ?_ | refine drawn_q ?_ | fail)
          intro w7 l7
          repeat' (first | (simp (disch := omega) only [push_cast, ↓reduceIte, zA, zG, zB, zH, zI, zC, zJ, zK, zL, zD, zE, zF, zM, zN, zO, zP, zQ, reduceCtorEq, not_true_eq_false, not_false_eq_true]) | (first | refine vIfE_of ?_ ?_ | refine vIfD_of ?_ ?_ | refine vIfQ_of ?_ ?_ | refine vIfV_of ?_ ?_) <;> intro _ | refine And.intro (by omega) ?_ | refine drawn_q ?_ | fail)
          refine ⟨rfl, k + 1, by simp (disch := omega) only [push_cast, ↓reduceIte, zA, zG, zB, zH, zI, zC, zJ, zK, zL, zD, zE, zF, zM, zN, zO, zP, zQ, reduceCtorEq, not_true_eq_false, not_false_eq_true], ⟨by omega, l6.trans l7, fun j hj hjk => ?_⟩, by dsimp only; omega⟩
          by_cases h : j < k
          · exact hB j hj h
          · have : j = k := by omega
            subst this
            exact he
      · have hki' : k = i := by omega
        subst hki'
        repeat' (first | (simp (disch := omega) only [push_cast, ↓reduceIte, zA, zG, zB, zH, zI, zC, zJ, zK, zL, zD, zE, zF, zM, zN, zO, zP, zQ, reduceCtorEq, not_true_eq_false, not_false_eq_true]) | (first | refine vIfE_of ?_ ?_ | refine vIfD_of ?_ ?_ | refine vIfQ_of ?_ ?_ | refine vIfV_of ?_ ?_) <;> intro _ | refine And.intro (by omega) ?_ | refine drawn_q ?_ | fail)
        refine ⟨rfl, k + 1, by simp (disch := omega) only [push_cast, ↓reduceIte, zA, zG, zB, zH, zI, zC, zJ, zK, zL, zD, zE, zF, zM, zN, zO, zP, zQ, reduceCtorEq, not_true_eq_false, not_false_eq_true], ⟨by omega, l4.trans l46, fun j hj hjk => ?_, ok_step hlt hP hB⟩, by dsimp only; omega⟩
        by_cases h : j < k
        · exact hA j hj h
        · have : j = k := by omega
          subst this
          exact hn
    · have hno : decide (ScOk d m) = false := decide_eq_false fun h => by
        rw [hOk] at h
        exact hn (h.1 _ (List.getElem_mem _))
      rw [decide_eq_false hn]
      repeat' (first | (simp (disch := omega) only [push_cast, ↓reduceIte, zA, zG, zB, zH, zI, zC, zJ, zK, zL, zD, zE, zF, zM, zN, zO, zP, zQ, reduceCtorEq, not_true_eq_false, not_false_eq_true]) | (first | refine vIfE_of ?_ ?_ | refine vIfD_of ?_ ?_ | refine vIfQ_of ?_ ?_ | refine vIfV_of ?_ ?_) <;> intro _ | refine And.intro (by omega) ?_ | refine drawn_q ?_ | fail)
      first | exact ⟨by rw [hno], (l04.trans l5)⟩ | exact (l04.trans l5)
  · have hd : decide (ScOk d m) = decide (1 ≤ d.length ∧ d.length ≤ 6 ∧ m.length ≤ 4) := by
      refine decide_eq_decide.2 ?_
      rw [hOk]
      refine ⟨fun h => h.2.2, fun h => ⟨fun x hx => ?_, ?_, h⟩⟩
      · obtain ⟨j, hj, rfl⟩ := List.getElem_of_mem hx
        exact hA j hj (by omega)
      · rw [List.take_of_length_le (by omega)] at hP
        exact hP
    obtain ⟨a0, a1, _⟩ := F w4 (l13.trans l4)
    rw [hdv] at a0
    rw [hmv] at a1
    rw [hd]
    by_cases h1 : 1 ≤ d.length
    · by_cases h2 : d.length ≤ 6
      · by_cases h3 : m.length ≤ 4
        · repeat' (first | (simp (disch := omega) only [push_cast, ↓reduceIte, zA, zG, zB, zH, zI, zC, zJ, zK, zL, zD, zE, zF, zM, zN, zO, zP, zQ, reduceCtorEq, not_true_eq_false, not_false_eq_true, a0, a1, addr_add_eq, Nat.zero_add]) | (first | refine vIfE_of ?_ ?_ | refine vIfD_of ?_ ?_ | refine vIfQ_of ?_ ?_ | refine vIfV_of ?_ ?_) <;> intro _ | refine And.intro (by omega) ?_ | refine drawn_q ?_ | fail)
          first | exact ⟨congrArg Value.bool ((decide_eq_true (by omega)).trans (decide_eq_true (by omega)).symm), l04⟩ | exact l04
        · repeat' (first | (simp (disch := omega) only [push_cast, ↓reduceIte, zA, zG, zB, zH, zI, zC, zJ, zK, zL, zD, zE, zF, zM, zN, zO, zP, zQ, reduceCtorEq, not_true_eq_false, not_false_eq_true, a0, a1, addr_add_eq, Nat.zero_add]) | (first | refine vIfE_of ?_ ?_ | refine vIfD_of ?_ ?_ | refine vIfQ_of ?_ ?_ | refine vIfV_of ?_ ?_) <;> intro _ | refine And.intro (by omega) ?_ | refine drawn_q ?_ | fail)
          first | exact ⟨congrArg Value.bool ((decide_eq_false (by omega)).trans (decide_eq_false (by omega)).symm), l04⟩ | exact l04
      · repeat' (first | (simp (disch := omega) only [push_cast, ↓reduceIte, zA, zG, zB, zH, zI, zC, zJ, zK, zL, zD, zE, zF, zM, zN, zO, zP, zQ, reduceCtorEq, not_true_eq_false, not_false_eq_true, a0, a1, addr_add_eq, Nat.zero_add]) | (first | refine vIfE_of ?_ ?_ | refine vIfD_of ?_ ?_ | refine vIfQ_of ?_ ?_ | refine vIfV_of ?_ ?_) <;> intro _ | refine And.intro (by omega) ?_ | refine drawn_q ?_ | fail)
        first | exact ⟨congrArg Value.bool ((decide_eq_false (by omega)).trans (decide_eq_false (by omega)).symm), congrArg Value.bool (decide_eq_false (by omega)).symm, l04⟩ | exact ⟨congrArg Value.bool (decide_eq_false (by omega)).symm, l04⟩ | exact l04
    · repeat' (first | (simp (disch := omega) only [push_cast, ↓reduceIte, zA, zG, zB, zH, zI, zC, zJ, zK, zL, zD, zE, zF, zM, zN, zO, zP, zQ, reduceCtorEq, not_true_eq_false, not_false_eq_true, a0, a1, addr_add_eq, Nat.zero_add]) | (first | refine vIfE_of ?_ ?_ | refine vIfD_of ?_ ?_ | refine vIfQ_of ?_ ?_ | refine vIfV_of ?_ ?_) <;> intro _ | refine And.intro (by omega) ?_ | refine drawn_q ?_ | fail)
      first | exact ⟨congrArg Value.bool ((decide_eq_false (by omega)).trans (decide_eq_false (by omega)).symm), l04⟩ | exact ⟨congrArg Value.bool (decide_eq_false (by omega)).symm, l04⟩ | trace_state
/-- A right row. -/
def RtOk (nd nm : Nat) (e : El) : Prop := e.d.length = nd ∧ e.a.length = nm ∧ (∀ s ∈ e.d, VlOk s) ∧ (∀ a ∈ e.a, ARt a) ∧ 0 ≤ e.t ∧ e.t ≤ 1099511627776 ∧ 1 ≤ e.n ∧ e.n ≤ 1048576
instance (nd nm : Nat) (e : El) : Decidable (RtOk nd nm e) := inferInstanceAs (Decidable (e.d.length = nd ∧ e.a.length = nm ∧ (∀ s ∈ e.d, VlOk s) ∧ (∀ a ∈ e.a, ARt a) ∧ 0 ≤ e.t ∧ e.t ≤ 1099511627776 ∧ 1 ≤ e.n ∧ e.n ≤ 1048576))
/-- A schema and a row that came as values: their boxes. -/
theorem boxSR (w : World) (dv mv : Value) (y : El) : Later w ((w.alloc (.cells #[dv, mv] 24)).alloc (.cells #[.int .i64 y.t, y.dv, .int .i64 y.n, y.av] 35)) ∧ ((w.alloc (.cells #[dv, mv] 24)).alloc (.cells #[.int .i64 y.t, y.dv, .int .i64 y.n, y.av] 35)).heap.size = w.heap.size + 2 ∧
    ∀ w', Later ((w.alloc (.cells #[dv, mv] 24)).alloc (.cells #[.int .i64 y.t, y.dv, .int .i64 y.n, y.av] 35)) w' →
      w'.cell? ⟨w.heap.size, 0, none⟩ = some dv ∧ w'.cell? ⟨w.heap.size, 1, none⟩ = some mv ∧ cellsAt w' ⟨w.heap.size, 0, none⟩ 2 = some [dv, mv] ∧
      w'.cell? ⟨w.heap.size + 1, 0, none⟩ = some (.int .i64 y.t) ∧ w'.cell? ⟨w.heap.size + 1, 1, none⟩ = some y.dv ∧ w'.cell? ⟨w.heap.size + 1, 2, none⟩ = some (.int .i64 y.n) ∧ w'.cell? ⟨w.heap.size + 1, 3, none⟩ = some y.av ∧ cellsAt w' ⟨w.heap.size + 1, 0, none⟩ 4 = some (elC y) := by
  obtain ⟨l1, s1, F⟩ := box2 w dv mv 24
  generalize w.alloc (.cells #[dv, mv] 24) = w1 at *
  have l2 := later_alloc w1 (.cells #[.int .i64 y.t, y.dv, .int .i64 y.n, y.av] 35)
  have B2 := Blk.new w1 #[.int .i64 y.t, y.dv, .int .i64 y.n, y.av] 35
  have s2 : (w1.alloc (.cells #[.int .i64 y.t, y.dv, .int .i64 y.n, y.av] 35)).heap.size = w1.heap.size + 1 := World.size_alloc w1 _
  generalize w1.alloc (.cells #[.int .i64 y.t, y.dv, .int .i64 y.n, y.av] 35) = w2 at *
  rw [s1] at B2
  refine ⟨l1.trans l2, by omega, fun w' hl => ?_⟩
  obtain ⟨f0, f1, f2⟩ := F w' (l2.trans hl)
  obtain ⟨b0, b1, b2, b3, b4⟩ := box4_later B2 hl
  exact ⟨f0, f1, f2, b0, b1, b2, b3, b4⟩
theorem dright_c (dv mv : Value) (d m : List ByteArray) (y : El) (w : World) (h : ScIs w dv mv d m) (hy : EIs w y) (hz : StZ y.d) : FnC Try.prog 28 #[scV dv mv, elV y] w fun r w' => r = .bool (decide (RtOk d.length m.length y)) ∧ Later w w' := by
  unfold scV elV
  obtain ⟨od, cd, hdv⟩ := Sl.slice h.dS
  obtain ⟨om, cm, hmv⟩ := Sl.slice h.mS
  have hyd := hy.1
  have hya := hy.2
  obtain ⟨oy, cy, hydv⟩ := Sl.slice hy.1
  obtain ⟨oa, ca, hyav, ga1, ga2⟩ := RecS.slice hy.2
  have gd := (Sl.len (hydv ▸ hyd)).2
  rw [List.length_map] at hdv hmv hydv gd
  have hmax : maxLen = 9223372036854775807 := rfl
  rw [hmax] at gd
  refine enter28 _ _ ?_
  unfold B28
  obtain ⟨l2, s2, F⟩ := boxSR w dv mv y
  have s1 := World.size_alloc w (.cells #[dv, mv] 24)
  have eca : (Value.agg #[dv, mv]).cells = #[dv, mv] := rfl
  have ecb : (Value.agg #[.int .i64 y.t, y.dv, .int .i64 y.n, y.av]).cells = #[.int .i64 y.t, y.dv, .int .i64 y.n, y.av] := rfl
  repeat' (first | (simp (disch := omega) only [push_cast, ↓reduceIte, zA, zG, zB, zH, zI, zC, zJ, zK, zL, zD, zE, zF, zM, zN, zO, zP, zQ, reduceCtorEq, not_true_eq_false, not_false_eq_true, eca, ecb, s1, s2]) | (first | refine vIfE_of ?_ ?_ | refine vIfD_of ?_ ?_ | refine vIfQ_of ?_ ?_ | refine vIfV_of ?_ ?_) <;> intro _ | refine And.intro (by omega) ?_ | fail)
  generalize ((w.alloc (.cells #[dv, mv] 24)).alloc (.cells #[.int .i64 y.t, y.dv, .int .i64 y.n, y.av] 35)) = w2 at *
  have F' : ∀ w', Later w2 w' → w'.cell? ⟨w.heap.size, 0, none⟩ = some (.slice od d.length cd) ∧ w'.cell? ⟨w.heap.size, 1, none⟩ = some (.slice om m.length cm) ∧
      w'.cell? ⟨w.heap.size + 1, 0, none⟩ = some (.int .i64 y.t) ∧ w'.cell? ⟨w.heap.size + 1, 1, none⟩ = some (.slice oy y.d.length cy) ∧ w'.cell? ⟨w.heap.size + 1, 2, none⟩ = some (.int .i64 y.n) ∧ w'.cell? ⟨w.heap.size + 1, 3, none⟩ = some (.slice oa y.a.length ca) := by
    intro w' hl
    obtain ⟨f0, f1, _, b0, b1, b2, b3, _⟩ := F w' hl
    rw [hdv] at f0
    rw [hmv] at f1
    rw [hydv] at b1
    rw [hyav] at b3
    exact ⟨f0, f1, b0, b1, b2, b3⟩
  rw [hydv] at hyd
  rw [hyav] at hya
  clear F hdv hmv hydv hyav eca ecb s1 s2
  obtain ⟨f0, f1, b0, b1, b2, b3⟩ := F' w2 (Later.refl _)
  have no : (¬ RtOk d.length m.length y) → decide (RtOk d.length m.length y) = false := fun h => decide_eq_false h
  by_cases hd : y.d.length = d.length
  case neg =>
    have hno := no fun h => hd h.1
    repeat' (first | (simp (disch := omega) only [push_cast, ↓reduceIte, zA, zG, zB, zH, zI, zC, zJ, zK, zL, zD, zE, zF, zM, zN, zO, zP, zQ, reduceCtorEq, not_true_eq_false, not_false_eq_true, f0, f1, b1, b3, addr_add_eq, Nat.zero_add]) | (first | refine vIfE_of ?_ ?_ | refine vIfD_of ?_ ?_ | refine vIfQ_of ?_ ?_ | refine vIfV_of ?_ ?_) <;> intro _ | refine And.intro (by omega) ?_ | refine drawn_q ?_ | fail)
    first | exact ⟨by rw [hno], l2⟩ | exact l2
  by_cases hm : y.a.length = m.length
  case neg =>
    have hno := no fun h => hm h.2.1
    repeat' (first | (simp (disch := omega) only [push_cast, ↓reduceIte, zA, zG, zB, zH, zI, zC, zJ, zK, zL, zD, zE, zF, zM, zN, zO, zP, zQ, reduceCtorEq, not_true_eq_false, not_false_eq_true, f0, f1, b1, b3, addr_add_eq, Nat.zero_add]) | (first | refine vIfE_of ?_ ?_ | refine vIfD_of ?_ ?_ | refine vIfQ_of ?_ ?_ | refine vIfV_of ?_ ?_) <;> intro _ | refine And.intro (by omega) ?_ | refine drawn_q ?_ | fail)
    first | exact ⟨by rw [hno], l2⟩ | exact l2
  repeat' (first | (simp (disch := omega) only [push_cast, ↓reduceIte, zA, zG, zB, zH, zI, zC, zJ, zK, zL, zD, zE, zF, zM, zN, zO, zP, zQ, reduceCtorEq, not_true_eq_false, not_false_eq_true, f0, f1, b1, b3, addr_add_eq, Nat.zero_add]) | (first | refine vIfE_of ?_ ?_ | refine vIfD_of ?_ ?_ | refine vIfQ_of ?_ ?_ | refine vIfV_of ?_ ?_) <;> intro _ | refine And.intro (by omega) ?_ | refine drawn_q ?_ | fail)
  refine vc_loop W28_0 (fun i : Nat => [(4, .bool false), (5, .int .i64 (i : Int))])
    (fun i w' => i ≤ y.d.length ∧ Later w2 w' ∧ (∀ j (h : j < y.d.length), j < i → VlOk y.d[j])) (fun i => y.d.length - i) 0 (by decide) ?_ ?_ ?_
  · simp (disch := omega) only [push_cast, ↓reduceIte, zA, zG, zB, zH, zI, zC, zJ, zK, zL, zD, zE, zF, zM, zN, zO, zP, zQ, reduceCtorEq, not_true_eq_false, not_false_eq_true]
  · exact ⟨by omega, Later.refl _, fun j _ hj => absurd hj (Nat.not_lt_zero _)⟩
  rintro i uu w3 ⟨hi, l3, hA⟩
  have l03 := l2.trans l3
  obtain ⟨f0, f1, b0, b1, b2, b3⟩ := F' w3 l3
  by_cases hlt : i < y.d.length
  · cases oy with
    | none => have := (Sl.len hyd).2.2.2 rfl; simp at this; rw [this.1] at hlt; simp at hlt
    | some ad =>
    have hc := StS.atS (Sl.later hyd l03) hlt
    repeat' (first | (simp (disch := omega) only [push_cast, ↓reduceIte, zA, zG, zB, zH, zI, zC, zJ, zK, zL, zD, zE, zF, zM, zN, zO, zP, zQ, reduceCtorEq, not_true_eq_false, not_false_eq_true, b1, hc, addr_add_eq, Nat.zero_add]) | (first | refine vIfE_of ?_ ?_ | refine vIfD_of ?_ ?_ | refine vIfQ_of ?_ ?_ | refine vIfV_of ?_ ?_) <;> intro _ | refine And.intro (by omega) ?_ | refine drawn_q ?_ | fail)
    refine (dvalue_c y.d[i] w3 (hz _ (List.getElem_mem _))).mono ?_
    rintro _ w0 ⟨rfl, h0⟩
    obtain rfl := h0.symm
    by_cases hv : VlOk y.d[i]
    · rw [decide_eq_true hv]
      repeat' (first | (simp (disch := omega) only [push_cast, ↓reduceIte, zA, zG, zB, zH, zI, zC, zJ, zK, zL, zD, zE, zF, zM, zN, zO, zP, zQ, reduceCtorEq, not_true_eq_false, not_false_eq_true]) | (first | refine vIfE_of ?_ ?_ | refine vIfD_of ?_ ?_ | refine vIfQ_of ?_ ?_ | refine vIfV_of ?_ ?_) <;> intro _ | refine And.intro (by omega) ?_ | refine drawn_q ?_ | fail)
      refine ⟨rfl, i + 1, by simp (disch := omega) only [push_cast, ↓reduceIte, zA, zG, zB, zH, zI, zC, zJ, zK, zL, zD, zE, zF, zM, zN, zO, zP, zQ, reduceCtorEq, not_true_eq_false, not_false_eq_true], ⟨by omega, l3, fun j hj hji => ?_⟩, by dsimp only; omega⟩
      by_cases h : j < i
      · exact hA j hj h
      · have : j = i := by omega
        subst this
        exact hv
    · have hno := no fun h => hv (h.2.2.1 _ (List.getElem_mem _))
      rw [decide_eq_false hv]
      repeat' (first | (simp (disch := omega) only [push_cast, ↓reduceIte, zA, zG, zB, zH, zI, zC, zJ, zK, zL, zD, zE, zF, zM, zN, zO, zP, zQ, reduceCtorEq, not_true_eq_false, not_false_eq_true]) | (first | refine vIfE_of ?_ ?_ | refine vIfD_of ?_ ?_ | refine vIfQ_of ?_ ?_ | refine vIfV_of ?_ ?_) <;> intro _ | refine And.intro (by omega) ?_ | refine drawn_q ?_ | fail)
      first | exact ⟨by rw [hno], l03⟩ | exact l03
  have hvs : ∀ s ∈ y.d, VlOk s := fun s hs => by
    obtain ⟨j, hj, rfl⟩ := List.getElem_of_mem hs
    exact hA j hj (by omega)
  repeat' (first | (simp (disch := omega) only [push_cast, ↓reduceIte, zA, zG, zB, zH, zI, zC, zJ, zK, zL, zD, zE, zF, zM, zN, zO, zP, zQ, reduceCtorEq, not_true_eq_false, not_false_eq_true, b1, addr_add_eq, Nat.zero_add]) | (first | refine vIfE_of ?_ ?_ | refine vIfD_of ?_ ?_ | refine vIfQ_of ?_ ?_ | refine vIfV_of ?_ ?_) <;> intro _ | refine And.intro (by omega) ?_ | refine drawn_q ?_ | fail)
  refine vc_loop W28_1 (fun i : Nat => [(4, .bool false), (7, .int .i64 (i : Int))])
    (fun i w' => i ≤ y.a.length ∧ Later w2 w' ∧ (∀ j (h : j < y.a.length), j < i → ARt y.a[j])) (fun i => y.a.length - i) 0 (by decide) ?_ ?_ ?_
  · simp (disch := omega) only [push_cast, ↓reduceIte, zA, zG, zB, zH, zI, zC, zJ, zK, zL, zD, zE, zF, zM, zN, zO, zP, zQ, reduceCtorEq, not_true_eq_false, not_false_eq_true]
  · exact ⟨by omega, l3, fun j _ hj => absurd hj (Nat.not_lt_zero _)⟩
  rintro i uu2 w4 ⟨hi, l4, hB⟩
  have l04 := l2.trans l4
  obtain ⟨f0, f1, b0, b1, b2, b3⟩ := F' w4 l4
  by_cases hlt : i < y.a.length
  · obtain ⟨ad, rfl, hc⟩ := RecS.at agC_len (hya.later l04) hlt
    unfold agC at hc
    repeat' (first | (simp (disch := omega) only [push_cast, ↓reduceIte, zA, zG, zB, zH, zI, zC, zJ, zK, zL, zD, zE, zF, zM, zN, zO, zP, zQ, reduceCtorEq, not_true_eq_false, not_false_eq_true, b3, hc, addr_add_eq, Nat.zero_add]) | (first | refine vIfE_of ?_ ?_ | refine vIfD_of ?_ ?_ | refine vIfQ_of ?_ ?_ | refine vIfV_of ?_ ?_) <;> intro _ | refine And.intro (by omega) ?_ | refine drawn_q ?_ | fail)
    refine (caright_c y.a[i] w4).mono ?_
    rintro _ w5 ⟨rfl, l5⟩
    by_cases hv : ARt y.a[i]
    · rw [decide_eq_true hv]
      repeat' (first | (simp (disch := omega) only [push_cast, ↓reduceIte, zA, zG, zB, zH, zI, zC, zJ, zK, zL, zD, zE, zF, zM, zN, zO, zP, zQ, reduceCtorEq, not_true_eq_false, not_false_eq_true]) | (first | refine vIfE_of ?_ ?_ | refine vIfD_of ?_ ?_ | refine vIfQ_of ?_ ?_ | refine vIfV_of ?_ ?_) <;> intro _ | refine And.intro (by omega) ?_ | refine drawn_q ?_ | fail)
      refine ⟨rfl, i + 1, by simp (disch := omega) only [push_cast, ↓reduceIte, zA, zG, zB, zH, zI, zC, zJ, zK, zL, zD, zE, zF, zM, zN, zO, zP, zQ, reduceCtorEq, not_true_eq_false, not_false_eq_true], ⟨by omega, l4.trans l5, fun j hj hji => ?_⟩, by dsimp only; omega⟩
      by_cases h : j < i
      · exact hB j hj h
      · have : j = i := by omega
        subst this
        exact hv
    · have hno := no fun h => hv (h.2.2.2.1 _ (List.getElem_mem _))
      rw [decide_eq_false hv]
      repeat' (first | (simp (disch := omega) only [push_cast, ↓reduceIte, zA, zG, zB, zH, zI, zC, zJ, zK, zL, zD, zE, zF, zM, zN, zO, zP, zQ, reduceCtorEq, not_true_eq_false, not_false_eq_true]) | (first | refine vIfE_of ?_ ?_ | refine vIfD_of ?_ ?_ | refine vIfQ_of ?_ ?_ | refine vIfV_of ?_ ?_) <;> intro _ | refine And.intro (by omega) ?_ | refine drawn_q ?_ | fail)
      first | exact ⟨by rw [hno], (l04.trans l5)⟩ | exact (l04.trans l5)
  have has : ∀ a ∈ y.a, ARt a := fun s hs => by
    obtain ⟨j, hj, rfl⟩ := List.getElem_of_mem hs
    exact hB j hj (by omega)
  have hdec : RtOk d.length m.length y ↔ (0 ≤ y.t ∧ y.t ≤ 1099511627776 ∧ 1 ≤ y.n ∧ y.n ≤ 1048576) := ⟨fun h => h.2.2.2.2, fun h => ⟨hd, hm, hvs, has, h⟩⟩
  rw [decide_eq_decide.2 hdec]
  by_cases h1 : 0 ≤ y.t
  · by_cases h2 : y.t ≤ 1099511627776
    · by_cases h3 : 1 ≤ y.n
      · by_cases h4 : y.n ≤ 1048576
        · repeat' (first | (simp (disch := omega) only [push_cast, ↓reduceIte, zA, zG, zB, zH, zI, zC, zJ, zK, zL, zD, zE, zF, zM, zN, zO, zP, zQ, reduceCtorEq, not_true_eq_false, not_false_eq_true, b0, b2, b3, addr_add_eq, Nat.zero_add]) | (first | refine vIfE_of ?_ ?_ | refine vIfD_of ?_ ?_ | refine vIfQ_of ?_ ?_ | refine vIfV_of ?_ ?_) <;> intro _ | refine And.intro (by omega) ?_ | refine drawn_q ?_ | fail)
          first | exact ⟨congrArg Value.bool ((decide_eq_true (by omega)).trans (decide_eq_true (by omega)).symm), l04⟩ | exact l04
        · repeat' (first | (simp (disch := omega) only [push_cast, ↓reduceIte, zA, zG, zB, zH, zI, zC, zJ, zK, zL, zD, zE, zF, zM, zN, zO, zP, zQ, reduceCtorEq, not_true_eq_false, not_false_eq_true, b0, b2, b3, addr_add_eq, Nat.zero_add]) | (first | refine vIfE_of ?_ ?_ | refine vIfD_of ?_ ?_ | refine vIfQ_of ?_ ?_ | refine vIfV_of ?_ ?_) <;> intro _ | refine And.intro (by omega) ?_ | refine drawn_q ?_ | fail)
          first | exact ⟨congrArg Value.bool ((decide_eq_false (by omega)).trans (decide_eq_false (by omega)).symm), l04⟩ | exact l04
      · repeat' (first | (simp (disch := omega) only [push_cast, ↓reduceIte, zA, zG, zB, zH, zI, zC, zJ, zK, zL, zD, zE, zF, zM, zN, zO, zP, zQ, reduceCtorEq, not_true_eq_false, not_false_eq_true, b0, b2, b3, addr_add_eq, Nat.zero_add]) | (first | refine vIfE_of ?_ ?_ | refine vIfD_of ?_ ?_ | refine vIfQ_of ?_ ?_ | refine vIfV_of ?_ ?_) <;> intro _ | refine And.intro (by omega) ?_ | refine drawn_q ?_ | fail)
        first | exact ⟨congrArg Value.bool ((decide_eq_false (by omega)).trans (decide_eq_false (by omega)).symm), l04⟩ | exact ⟨congrArg Value.bool (decide_eq_false (by omega)).symm, l04⟩
    · repeat' (first | (simp (disch := omega) only [push_cast, ↓reduceIte, zA, zG, zB, zH, zI, zC, zJ, zK, zL, zD, zE, zF, zM, zN, zO, zP, zQ, reduceCtorEq, not_true_eq_false, not_false_eq_true, b0, b2, b3, addr_add_eq, Nat.zero_add]) | (first | refine vIfE_of ?_ ?_ | refine vIfD_of ?_ ?_ | refine vIfQ_of ?_ ?_ | refine vIfV_of ?_ ?_) <;> intro _ | refine And.intro (by omega) ?_ | refine drawn_q ?_ | fail)
      first | exact ⟨congrArg Value.bool ((decide_eq_false (by omega)).trans (decide_eq_false (by omega)).symm), l04⟩ | exact ⟨congrArg Value.bool (decide_eq_false (by omega)).symm, l04⟩
  · repeat' (first | (simp (disch := omega) only [push_cast, ↓reduceIte, zA, zG, zB, zH, zI, zC, zJ, zK, zL, zD, zE, zF, zM, zN, zO, zP, zQ, reduceCtorEq, not_true_eq_false, not_false_eq_true, b0, b2, b3, addr_add_eq, Nat.zero_add]) | (first | refine vIfE_of ?_ ?_ | refine vIfD_of ?_ ?_ | refine vIfQ_of ?_ ?_ | refine vIfV_of ?_ ?_) <;> intro _ | refine And.intro (by omega) ?_ | refine drawn_q ?_ | fail)
    first | exact ⟨congrArg Value.bool ((decide_eq_false (by omega)).trans (decide_eq_false (by omega)).symm), l04⟩ | exact ⟨congrArg Value.bool (decide_eq_false (by omega)).symm, l04⟩
/-- Rows that are gone through. -/
def F13 (d m : List ByteArray) (l : List El) : Prop := F10 d ∧ F10 m ∧ l.length ≤ 120 ∧ ScOk d m ∧ ∀ e ∈ l, RtOk d.length m.length e
instance (d m : List ByteArray) (l : List El) : Decidable (F13 d m l) := inferInstanceAs (Decidable (F10 d ∧ F10 m ∧ l.length ≤ 120 ∧ ScOk d m ∧ ∀ e ∈ l, RtOk d.length m.length e))
theorem fits13_c (dv mv v : Value) (d m : List ByteArray) (l : List El) (w : World) (h : ScIs w dv mv d m) (hl : RecS elC 4 w v l) (hes : ∀ e ∈ l, EIs w e ∧ StZ e.d) : FnC Try.prog 11 #[scV dv mv, v] w fun r w' => r = .bool (decide (F13 d m l)) ∧ Later w w' := by
  unfold scV
  obtain ⟨ol, cl, rfl, gl1, gl2⟩ := hl.slice
  refine enter11 _ _ ?_
  unfold B11
  obtain ⟨l1, s1, F⟩ := box2 w dv mv 24
  have eca : (Value.agg #[dv, mv]).cells = #[dv, mv] := rfl
  have no : (¬ F13 d m l) → decide (F13 d m l) = false := fun h => decide_eq_false h
  repeat' (first | (simp (disch := omega) only [push_cast, ↓reduceIte, zA, zG, zB, zH, zI, zC, zJ, zK, zL, zD, zE, zF, zM, zN, zO, zP, zQ, reduceCtorEq, not_true_eq_false, not_false_eq_true, eca, s1]) | (first | refine vIfE_of ?_ ?_ | refine vIfD_of ?_ ?_ | refine vIfQ_of ?_ ?_ | refine vIfV_of ?_ ?_) <;> intro _ | refine And.intro (by omega) ?_ | fail)
  generalize w.alloc (.cells #[dv, mv] 24) = w1 at *
  obtain ⟨a0, a1, a2⟩ := F w1 (Later.refl _)
  have h1 := h.later l1
  repeat' (first | (simp (disch := omega) only [push_cast, ↓reduceIte, zA, zG, zB, zH, zI, zC, zJ, zK, zL, zD, zE, zF, zM, zN, zO, zP, zQ, reduceCtorEq, not_true_eq_false, not_false_eq_true, a0, addr_add_eq, Nat.zero_add]) | (first | refine vIfE_of ?_ ?_ | refine vIfD_of ?_ ?_ | refine vIfQ_of ?_ ?_ | refine vIfV_of ?_ ?_) <;> intro _ | refine And.intro (by omega) ?_ | refine drawn_q ?_ | fail)
  refine (fits10_c dv d w1 h1.dS h.dZ).mono ?_
  rintro _ w0 ⟨rfl, h0⟩
  obtain rfl := h0.symm
  repeat' (first | (simp (disch := omega) only [push_cast, ↓reduceIte, zA, zG, zB, zH, zI, zC, zJ, zK, zL, zD, zE, zF, zM, zN, zO, zP, zQ, reduceCtorEq, not_true_eq_false, not_false_eq_true, a1, addr_add_eq, Nat.zero_add]) | (first | refine vIfE_of ?_ ?_ | refine vIfD_of ?_ ?_ | refine vIfQ_of ?_ ?_ | refine vIfV_of ?_ ?_) <;> intro _ | refine And.intro (by omega) ?_ | refine drawn_q ?_ | fail)
  refine (fits10_c mv m w1 h1.mS h.mZ).mono ?_
  rintro _ w0 ⟨rfl, h0⟩
  obtain rfl := h0.symm
  by_cases hd : F10 d
  case neg =>
    have hno := no fun h => hd h.1
    rw [decide_eq_false hd]
    repeat' (first | (simp (disch := omega) only [push_cast, ↓reduceIte, zA, zG, zB, zH, zI, zC, zJ, zK, zL, zD, zE, zF, zM, zN, zO, zP, zQ, reduceCtorEq, not_true_eq_false, not_false_eq_true]) | (first | refine vIfE_of ?_ ?_ | refine vIfD_of ?_ ?_ | refine vIfQ_of ?_ ?_ | refine vIfV_of ?_ ?_) <;> intro _ | refine And.intro (by omega) ?_ | refine drawn_q ?_ | fail)
    first | exact ⟨by rw [hno], l1⟩ | exact l1
  by_cases hm : F10 m
  case neg =>
    have hno := no fun h => hm h.2.1
    rw [decide_eq_true hd, decide_eq_false hm]
    repeat' (first | (simp (disch := omega) only [push_cast, ↓reduceIte, zA, zG, zB, zH, zI, zC, zJ, zK, zL, zD, zE, zF, zM, zN, zO, zP, zQ, reduceCtorEq, not_true_eq_false, not_false_eq_true]) | (first | refine vIfE_of ?_ ?_ | refine vIfD_of ?_ ?_ | refine vIfQ_of ?_ ?_ | refine vIfV_of ?_ ?_) <;> intro _ | refine And.intro (by omega) ?_ | refine drawn_q ?_ | fail)
    first | exact ⟨by rw [hno], l1⟩ | exact l1
  by_cases hn : l.length ≤ 120
  case neg =>
    have hno := no fun h => hn h.2.2.1
    rw [decide_eq_true hd, decide_eq_true hm]
    repeat' (first | (simp (disch := omega) only [push_cast, ↓reduceIte, zA, zG, zB, zH, zI, zC, zJ, zK, zL, zD, zE, zF, zM, zN, zO, zP, zQ, reduceCtorEq, not_true_eq_false, not_false_eq_true]) | (first | refine vIfE_of ?_ ?_ | refine vIfD_of ?_ ?_ | refine vIfQ_of ?_ ?_ | refine vIfV_of ?_ ?_) <;> intro _ | refine And.intro (by omega) ?_ | refine drawn_q ?_ | fail)
    first | exact ⟨by rw [hno], l1⟩ | exact l1
  rw [decide_eq_true hd, decide_eq_true hm]
  repeat' (first | (simp (disch := omega) only [push_cast, ↓reduceIte, zA, zG, zB, zH, zI, zC, zJ, zK, zL, zD, zE, zF, zM, zN, zO, zP, zQ, reduceCtorEq, not_true_eq_false, not_false_eq_true, a2]) | (first | refine vIfE_of ?_ ?_ | refine vIfD_of ?_ ?_ | refine vIfQ_of ?_ ?_ | refine vIfV_of ?_ ?_) <;> intro _ | refine And.intro (by omega) ?_ | refine drawn_q ?_ | fail)
  refine (dschema_c dv mv d m w1 h1 (by have := hd.1; omega) (by have := hm.1; omega)).mono ?_
  rintro _ w2 ⟨rfl, l2⟩
  by_cases hs : ScOk d m
  case neg =>
    have hno := no fun h => hs h.2.2.2.1
    rw [decide_eq_false hs]
    repeat' (first | (simp (disch := omega) only [push_cast, ↓reduceIte, zA, zG, zB, zH, zI, zC, zJ, zK, zL, zD, zE, zF, zM, zN, zO, zP, zQ, reduceCtorEq, not_true_eq_false, not_false_eq_true]) | (first | refine vIfE_of ?_ ?_ | refine vIfD_of ?_ ?_ | refine vIfQ_of ?_ ?_ | refine vIfV_of ?_ ?_) <;> intro _ | refine And.intro (by omega) ?_ | refine drawn_q ?_ | fail)
    first | exact ⟨by rw [hno], (l1.trans l2)⟩ | exact (l1.trans l2)
  rw [decide_eq_true hs]
  repeat' (first | (simp (disch := omega) only [push_cast, ↓reduceIte, zA, zG, zB, zH, zI, zC, zJ, zK, zL, zD, zE, zF, zM, zN, zO, zP, zQ, reduceCtorEq, not_true_eq_false, not_false_eq_true]) | (first | refine vIfE_of ?_ ?_ | refine vIfD_of ?_ ?_ | refine vIfQ_of ?_ ?_ | refine vIfV_of ?_ ?_) <;> intro _ | refine And.intro (by omega) ?_ | refine drawn_q ?_ | fail)
  refine vc_loop W11_0 (fun i : Nat => [(4, .bool false), (7, .int .i64 (i : Int))])
    (fun i w' => i ≤ l.length ∧ Later w2 w' ∧ (∀ j (h : j < l.length), j < i → RtOk d.length m.length l[j])) (fun i => l.length - i) 0 (by decide) ?_ ?_ ?_
  · simp (disch := omega) only [push_cast, ↓reduceIte, zA, zG, zB, zH, zI, zC, zJ, zK, zL, zD, zE, zF, zM, zN, zO, zP, zQ, reduceCtorEq, not_true_eq_false, not_false_eq_true]
  · exact ⟨by omega, Later.refl _, fun j _ hj => absurd hj (Nat.not_lt_zero _)⟩
  rintro i uu w3 ⟨hi, l3, hA⟩
  have l13 := l2.trans l3
  have l03 := l1.trans l13
  obtain ⟨_, _, a2⟩ := F w3 l13
  by_cases hlt : i < l.length
  · obtain ⟨ad, rfl, hc⟩ := RecS.at elC_len (hl.later l03) hlt
    have hy := hes _ (List.getElem_mem hlt)
    repeat' (first | (simp (disch := omega) only [push_cast, ↓reduceIte, zA, zG, zB, zH, zI, zC, zJ, zK, zL, zD, zE, zF, zM, zN, zO, zP, zQ, reduceCtorEq, not_true_eq_false, not_false_eq_true, a2, hc]) | (first | refine vIfE_of ?_ ?_ | refine vIfD_of ?_ ?_ | refine vIfQ_of ?_ ?_ | refine vIfV_of ?_ ?_) <;> intro _ | refine And.intro (by omega) ?_ | refine drawn_q ?_ | fail)
    refine QFn.of hb28 (v := .bool (decide (RtOk d.length m.length l[i]))) (fun w' hl => dright_c dv mv d m l[i] w' (h.later (l03.trans hl)) (hy.1.later (l03.trans hl)) hy.2) ?_
    by_cases hv : RtOk d.length m.length l[i]
    · rw [decide_eq_true hv]
      repeat' (first | (simp (disch := omega) only [push_cast, ↓reduceIte, zA, zG, zB, zH, zI, zC, zJ, zK, zL, zD, zE, zF, zM, zN, zO, zP, zQ, reduceCtorEq, not_true_eq_false, not_false_eq_true]) | (first | refine vIfE_of ?_ ?_ | refine vIfD_of ?_ ?_ | refine vIfQ_of ?_ ?_ | refine vIfV_of ?_ ?_) <;> intro _ | refine And.intro (by omega) ?_ | refine drawn_q ?_ | fail)
      intro w4 l4
      repeat' (first | (simp (disch := omega) only [push_cast, ↓reduceIte, zA, zG, zB, zH, zI, zC, zJ, zK, zL, zD, zE, zF, zM, zN, zO, zP, zQ, reduceCtorEq, not_true_eq_false, not_false_eq_true]) | (first | refine vIfE_of ?_ ?_ | refine vIfD_of ?_ ?_ | refine vIfQ_of ?_ ?_ | refine vIfV_of ?_ ?_) <;> intro _ | refine And.intro (by omega) ?_ | refine drawn_q ?_ | fail)
      refine ⟨rfl, i + 1, by simp (disch := omega) only [push_cast, ↓reduceIte, zA, zG, zB, zH, zI, zC, zJ, zK, zL, zD, zE, zF, zM, zN, zO, zP, zQ, reduceCtorEq, not_true_eq_false, not_false_eq_true], ⟨by omega, l3.trans l4, fun j hj hji => ?_⟩, by dsimp only; omega⟩
      by_cases h : j < i
      · exact hA j hj h
      · have : j = i := by omega
        subst this
        exact hv
    · have hno := no fun h => hv (h.2.2.2.2 _ (List.getElem_mem _))
      rw [decide_eq_false hv]
      repeat' (first | (simp (disch := omega) only [push_cast, ↓reduceIte, zA, zG, zB, zH, zI, zC, zJ, zK, zL, zD, zE, zF, zM, zN, zO, zP, zQ, reduceCtorEq, not_true_eq_false, not_false_eq_true]) | (first | refine vIfE_of ?_ ?_ | refine vIfD_of ?_ ?_ | refine vIfQ_of ?_ ?_ | refine vIfV_of ?_ ?_) <;> intro _ | refine And.intro (by omega) ?_ | refine drawn_q ?_ | fail)
      intro w4 l4
      repeat' (first | (simp (disch := omega) only [push_cast, ↓reduceIte, zA, zG, zB, zH, zI, zC, zJ, zK, zL, zD, zE, zF, zM, zN, zO, zP, zQ, reduceCtorEq, not_true_eq_false, not_false_eq_true]) | (first | refine vIfE_of ?_ ?_ | refine vIfD_of ?_ ?_ | refine vIfQ_of ?_ ?_ | refine vIfV_of ?_ ?_) <;> intro _ | refine And.intro (by omega) ?_ | refine drawn_q ?_ | fail)
      first | exact ⟨by rw [hno], (l03.trans l4)⟩ | exact (l03.trans l4)
  · have hyes : decide (F13 d m l) = true := decide_eq_true ⟨hd, hm, hn, hs, fun e he => by
      obtain ⟨j, hj, rfl⟩ := List.getElem_of_mem he
      exact hA j hj (by omega)⟩
    repeat' (first | (simp (disch := omega) only [push_cast, ↓reduceIte, zA, zG, zB, zH, zI, zC, zJ, zK, zL, zD, zE, zF, zM, zN, zO, zP, zQ, reduceCtorEq, not_true_eq_false, not_false_eq_true]) | (first | refine vIfE_of ?_ ?_ | refine vIfD_of ?_ ?_ | refine vIfQ_of ?_ ?_ | refine vIfV_of ?_ ?_) <;> intro _ | refine And.intro (by omega) ?_ | refine drawn_q ?_ | fail)
    first | exact ⟨by rw [hyes], l03⟩ | exact l03
end Go.Proofs.Ythihbgpaoldbjaa
end
section
namespace Go.Proofs
open Go.Shelf
def Try.laysGw17_ren : Go.Shelf.Ren := ⟨fun | 17 => 95 | 15 => 108 | 20 => 116 | n => n, fun | 9 => 9 | 23 => 104 | 4 => 4 | 3 => 3 | 0 => 0 | 21 => 21 | n => n, fun | n => n⟩
theorem Try.laysGw17 : Go.Proofs.LaysGw.n17 Try.prog Try.laysGw17_ren := {
  mixed := by kernel_rfl
  f15 := Try.func108.trans (congrArg some (by kernel_rfl))
  f17 := Try.func95.trans (congrArg some (by kernel_rfl))
  f20 := Try.func116.trans (congrArg some (by kernel_rfl))
  t0 := Try.underlying0
  a0 := Try.isAgg0
  z0 := Try.sizeOf0
  v0 := Try.zeroValue0
  i0 := by kernel_rfl
  t3 := Try.underlying3
  a3 := Try.isAgg3
  z3 := Try.sizeOf3
  v3 := Try.zeroValue3
  i3 := by kernel_rfl
  t4 := Try.underlying4
  a4 := Try.isAgg4
  z4 := Try.sizeOf4
  v4 := Try.zeroValue4
  i4 := by kernel_rfl
  t9 := Try.underlying9
  a9 := Try.isAgg9
  z9 := Try.sizeOf9
  v9 := Try.zeroValue9
  i9 := by kernel_rfl
  t21 := Try.underlying21
  a21 := Try.isAgg21
  z21 := Try.sizeOf21
  v21 := Try.zeroValue21
  i21 := by kernel_rfl
  t23 := Try.underlying104
  a23 := Try.isAgg104
  z23 := Try.sizeOf104
  v23 := Try.zeroValue104
  i23 := by kernel_rfl }
def Try.lays150_ren : Go.Shelf.Ren := ⟨fun | 150 => 94 | 153 => 107 | 152 => 112 | 226 => 113 | 227 => 114 | 228 => 115 | 137 => 118 | 119 => 119 | 224 => 120 | 225 => 121 | 217 => 123 | 266 => 124 | n => n, fun | 9 => 9 | 4 => 4 | 3 => 3 | 5 => 5 | 21 => 21 | 117 => 119 | 116 => 118 | 0 => 0 | 46 => 123 | 124 => 126 | n => n, fun | n => n⟩
theorem Try.lays150 : Go.Proofs.Lays.n150 Try.prog Try.lays150_ren := {
  mixed := by kernel_rfl
  f119 := Try.func119.trans (congrArg some (by kernel_rfl))
  f137 := Try.func118.trans (congrArg some (by kernel_rfl))
  f150 := Try.func94.trans (congrArg some (by kernel_rfl))
  f152 := Try.func112.trans (congrArg some (by kernel_rfl))
  f153 := Try.func107.trans (congrArg some (by kernel_rfl))
  f217 := Try.func123.trans (congrArg some (by kernel_rfl))
  f224 := Try.func120.trans (congrArg some (by kernel_rfl))
  f225 := Try.func121.trans (congrArg some (by kernel_rfl))
  f226 := Try.func113.trans (congrArg some (by kernel_rfl))
  f227 := Try.func114.trans (congrArg some (by kernel_rfl))
  f228 := Try.func115.trans (congrArg some (by kernel_rfl))
  f266 := Try.func124.trans (congrArg some (by kernel_rfl))
  t0 := Try.underlying0
  a0 := Try.isAgg0
  z0 := Try.sizeOf0
  v0 := Try.zeroValue0
  t3 := Try.underlying3
  a3 := Try.isAgg3
  z3 := Try.sizeOf3
  v3 := Try.zeroValue3
  t4 := Try.underlying4
  a4 := Try.isAgg4
  z4 := Try.sizeOf4
  v4 := Try.zeroValue4
  t5 := Try.underlying5
  a5 := Try.isAgg5
  z5 := Try.sizeOf5
  v5 := Try.zeroValue5
  t9 := Try.underlying9
  a9 := Try.isAgg9
  z9 := Try.sizeOf9
  v9 := Try.zeroValue9
  t21 := Try.underlying21
  a21 := Try.isAgg21
  z21 := Try.sizeOf21
  v21 := Try.zeroValue21
  t46 := Try.underlying123
  a46 := Try.isAgg123
  z46 := Try.sizeOf123
  v46 := Try.zeroValue123
  t116 := Try.underlying118
  a116 := Try.isAgg118
  z116 := Try.sizeOf118
  t117 := Try.underlying119
  a117 := Try.isAgg119
  z117 := Try.sizeOf119
  v117 := Try.zeroValue119
  t124 := Try.underlying126
  a124 := Try.isAgg126
  z124 := Try.sizeOf126
  v124 := Try.zeroValue126 }
open Go.RowKit Go.Lib in
theorem Try.strings_ContainsAny_laid (s chars : ByteArray) (w : World) (hs : s.size < 4294967281) (hcs : chars.size < 4294967281) (has : ∀ (j : Nat) b, s.data.toList[j]? = some b → b.toNat < 128) (hac : ∀ (j : Nat) b, chars.data.toList[j]? = some b → b.toNat < 128) :
    Calls Try.prog 94 #[.string s, .string chars] w fun e w' => e = .returned (.bool (Lib.containsAny s.data.toList chars.data.toList)) ∧ Below w.heap.size w w' := Any.strings_ContainsAny_laid Try.lays150 (by kernel_rfl) s chars w hs hcs has hac
open Go.RowKit Go.Lib in
theorem Try.strings_ContainsFunc_grows (g : Nat) (lb : Array Value) (eg : ∀ args w, (callFunc g args).run Try.prog w = .ok (.enter g args) w) (p : Nat → Bool) (s : ByteArray) (w : World) (hp : PredGrows Try.prog g lb p w) :
    Calls Try.prog 95 #[.string s, .func (.func g) #[] lb] w fun e w' => e = .returned (.bool (decide (0 ≤ Lib.idxFunc p true s))) ∧ Below w.heap.size w w' := Any.strings_ContainsFunc_grows Try.laysGw17 g lb eg p s w hp
end Go.Proofs
end
section
set_option linter.unusedSimpArgs false
namespace Go.Vc
/-- A contract in the plain sense, as a contract of mine. -/
theorem FnC.of_calls {P : Program} {f : FuncId} {args : Array Value} {w : World} {R : Value → World → Prop} {Q : Ending → World → Prop} (hb : HasBody P f) (h : Calls P f args w Q) (hR : ∀ e w', Q e w' → ∃ v, e = .returned v ∧ R v w') : FnC P f args w R :=
  hb.fn (Calls.mono h hR)
/-- A contract of mine as a contract in the plain sense. -/
theorem calls_of_fn {P : Program} {f : FuncId} {args : Array Value} {w : World} {R : Value → World → Prop} {Q : Ending → World → Prop} (hb : HasBody P f) (h : FnC P f args w R) (hR : ∀ v w', R v w' → Q (.returned v) w') : Calls P f args w Q := by
  unfold FnC at h
  rw [hb args w] at h
  have h : Ret P f args w R := h
  refine Calls.mono h ?_
  rintro e w' ⟨v, rfl, hr⟩
  exact hR v w' hr
end Go.Vc
namespace Go.Proofs.Ythihbgpaoldbjaa
open Go.Vc Go.Key
set_option maxRecDepth 100000
theorem hbCF : HasBody Try.prog 95 := hasBody_of Try.func95 (by kernel_rfl)
theorem hbCA : HasBody Try.prog 94 := hasBody_of Try.func94 (by kernel_rfl)
def outR (x : Nat) : Bool := decide (x < 32) || decide (126 < x)
theorem value1_c (x : Nat) (w : World) : FnC Try.prog 96 #[.int .i32 (x : Int)] w fun r w' => r = .bool (outR x) ∧ w' = w := by
  refine enter96 _ ?_
  unfold B96
  unfold outR
  by_cases h1 : x < 32
  · rw [decide_eq_true h1]
    repeat' (first | (simp (disch := omega) only [push_cast, ↓reduceIte, zA, zG, zB, zH, zI, zC, zJ, zK, zL, zD, zE, zF, zM, zN, zO, zP, zQ, reduceCtorEq, not_true_eq_false, not_false_eq_true]) | (first | refine vIfE_of ?_ ?_ | refine vIfD_of ?_ ?_ | refine vIfQ_of ?_ ?_ | refine vIfV_of ?_ ?_) <;> intro _ | refine And.intro (by omega) ?_ | refine drawn_q ?_ | fail)
    all_goals simp
  · rw [decide_eq_false h1]
    repeat' (first | (simp (disch := omega) only [push_cast, ↓reduceIte, zA, zG, zB, zH, zI, zC, zJ, zK, zL, zD, zE, zF, zM, zN, zO, zP, zQ, reduceCtorEq, not_true_eq_false, not_false_eq_true]) | (first | refine vIfE_of ?_ ?_ | refine vIfD_of ?_ ?_ | refine vIfQ_of ?_ ?_ | refine vIfV_of ?_ ?_) <;> intro _ | refine And.intro (by omega) ?_ | refine drawn_q ?_ | fail)
    first | exact ⟨congrArg Value.bool (by first | (rw [Bool.false_or]; exact decide_eq_decide.2 (by omega)) | exact decide_eq_decide.2 (by omega)), rfl⟩ | (exact congrArg Value.bool (by first | (rw [Bool.false_or]; exact decide_eq_decide.2 (by omega)) | exact decide_eq_decide.2 (by omega)))
/-- All bytes are of seven bits. -/
def Asc (s : ByteArray) : Prop := ∀ i (h : i < s.size), s[i].toNat < 128
instance (s : ByteArray) : Decidable (Asc s) := inferInstanceAs (Decidable (∀ i (h : i < s.size), s[i].toNat < 128))
theorem idx_out {s : ByteArray} : (decide (0 ≤ Go.Lib.idxFunc outR true s) = false) ↔ ∀ i (h : i < s.size), 32 ≤ s[i].toNat ∧ s[i].toNat ≤ 126 := by
  have key : ∀ (f pos : Nat), s.size - pos ≤ f → (¬ 0 ≤ Go.Lib.idxFuncFrom outR true s f pos ↔ ∀ i (h : i < s.size), pos ≤ i → 32 ≤ s[i].toNat ∧ s[i].toNat ≤ 126) := by
    intro f
    induction f with
    | zero =>
      intro pos hp
      unfold Go.Lib.idxFuncFrom
      exact ⟨fun _ i hi h => by omega, fun _ => by omega⟩
    | succ f ih =>
      intro pos hp
      unfold Go.Lib.idxFuncFrom
      by_cases hlt : pos < s.size
      · rw [if_pos hlt]
        by_cases hb : s[pos].toNat < 128
        · rw [decode_ascii s pos hlt hb]
          dsimp only
          by_cases ho : outR s[pos].toNat = true
          · rw [if_pos ho]
            refine ⟨fun h => absurd (by omega) h, fun h => ?_⟩
            have := h pos hlt (Nat.le_refl _)
            simp [outR] at ho
            omega
          · rw [if_neg ho, ih (pos + 1) (by omega)]
            refine ⟨fun h i hi hpi => ?_, fun h i hi hpi => h i hi (by omega)⟩
            by_cases he : i = pos
            · subst he
              simp [outR] at ho
              omega
            · exact h i hi (by omega)
        · have hd := (decode_high s pos hlt (by omega)).1
          have ho : outR (Utf8.decode s pos).1 = true := by simp [outR]; omega
          rw [if_pos ho]
          refine ⟨fun h => absurd (by omega) h, fun h => ?_⟩
          have := h pos hlt (Nat.le_refl _)
          omega
      · rw [if_neg hlt]
        exact ⟨fun _ i hi h => by omega, fun _ => by omega⟩
  unfold Go.Lib.idxFunc
  rw [decide_eq_false_iff_not, key s.size 0 (by omega)]
  exact ⟨fun h i hi => h i hi (Nat.zero_le _), fun h i hi _ => h i hi⟩
abbrev quotes : ByteArray := ⟨#[34, 92]⟩
/-- What is told of the bytes that bar a text. -/
def CanyAt (s : ByteArray) : Prop := ∀ w, FnC Try.prog 94 #[.string s, .string quotes] w fun r w' => (∃ t, r = .bool t ∧ (Asc s → (t = true ↔ ∃ i, ∃ h : i < s.size, s[i].toNat = 34 ∨ s[i].toNat = 92))) ∧ Later w w'
theorem any_is (chars : List UInt8) : ∀ l : List UInt8, Go.Lib.containsAny l chars = true ↔ ∃ b ∈ l, chars.contains b = true := by
  intro l
  unfold Go.Lib.containsAny
  rw [decide_eq_true_eq]
  induction l with
  | nil => simp [Go.Lib.indexAny]
  | cons b l ih =>
    unfold Go.Lib.indexAny
    by_cases hb : chars.contains b = true
    · rw [if_pos hb]
      exact ⟨fun _ => ⟨b, by simp, hb⟩, fun _ => by omega⟩
    · have hb' : chars.contains b = false := by simpa using hb
      rw [if_neg hb]
      have hge := Go.Lib.indexAny_ge chars l
      by_cases he : (Go.Lib.indexAny l chars == -1) = true
      · rw [if_pos he]
        have he' : Go.Lib.indexAny l chars = -1 := by simpa using he
        rw [he'] at ih
        constructor
        · intro h; omega
        · rintro ⟨x, hx, hc⟩
          rcases List.mem_cons.1 hx with rfl | hx
          · rw [hb'] at hc; cases hc
          · exact ih.2 ⟨x, hx, hc⟩
      · rw [if_neg he]
        have he' : Go.Lib.indexAny l chars ≠ -1 := by simpa using he
        constructor
        · intro h
          obtain ⟨x, hx, hc⟩ := ih.1 (by omega)
          exact ⟨x, List.mem_cons_of_mem _ hx, hc⟩
        · rintro _; omega
theorem cany_asc (s : ByteArray) (ha : Asc s) (hs : s.size ≤ 1000) : CanyAt s := by
  intro w
  refine FnC.of_calls hbCA (Try.strings_ContainsAny_laid s quotes w (by omega) (by decide) (fun j b hb => ?_) (fun j b hb => ?_)) ?_
  · obtain ⟨hj, rfl⟩ := List.getElem?_eq_some_iff.1 hb
    exact ha j (by simpa using hj)
  · match j, hb with
    | 0, hb => cases hb; decide
    | 1, hb => cases hb; decide
    | n + 2, hb => simp at hb
  · rintro e w' ⟨rfl, hl⟩
    refine ⟨_, rfl, ⟨_, rfl, fun _ => ?_⟩, hl⟩
    rw [any_is]
    constructor
    · rintro ⟨b, hb, hc⟩
      obtain ⟨i, hi, rfl⟩ := List.getElem_of_mem hb
      refine ⟨i, by simpa using hi, ?_⟩
      simp at hc
      rcases hc with hc | hc
      · left; exact congrArg UInt8.toNat hc
      · right; exact congrArg UInt8.toNat hc
    · rintro ⟨i, hi, hc⟩
      refine ⟨s[i], ?_, ?_⟩
      · have : s[i] = s.data.toList[i]'(by simpa using hi) := rfl
        rw [this]
        exact List.getElem_mem _
      · simp
        rcases hc with hc | hc
        · left; exact UInt8.toNat_inj.1 hc
        · right; exact UInt8.toNat_inj.1 hc
theorem value_c (s : ByteArray) (w : World) (hC : s.size ≤ 24 → CanyAt s) : FnC Try.prog 61 #[.string s] w fun r w' => r = .bool (decide (VlOk s)) ∧ Later w w' := by
  refine enter61 _ ?_
  unfold B61
  by_cases h24 : s.size ≤ 24
  case neg =>
    have hno : decide (VlOk s) = false := decide_eq_false fun h => h24 h.2
    repeat' (first | (simp (disch := omega) only [push_cast, ↓reduceIte, zA, zG, zB, zH, zI, zC, zJ, zK, zL, zD, zE, zF, zM, zN, zO, zP, zQ, reduceCtorEq, not_true_eq_false, not_false_eq_true]) | (first | refine vIfE_of ?_ ?_ | refine vIfD_of ?_ ?_ | refine vIfQ_of ?_ ?_ | refine vIfV_of ?_ ?_) <;> intro _ | refine And.intro (by omega) ?_ | refine drawn_q ?_ | fail)
    first | exact ⟨by rw [hno], Later.refl _⟩ | exact Later.refl _
  repeat' (first | (simp (disch := omega) only [push_cast, ↓reduceIte, zA, zG, zB, zH, zI, zC, zJ, zK, zL, zD, zE, zF, zM, zN, zO, zP, zQ, reduceCtorEq, not_true_eq_false, not_false_eq_true]) | (first | refine vIfE_of ?_ ?_ | refine vIfD_of ?_ ?_ | refine vIfQ_of ?_ ?_ | refine vIfV_of ?_ ?_) <;> intro _ | refine And.intro (by omega) ?_ | refine drawn_q ?_ | fail)
  refine (hC h24 w).mono ?_
  rintro _ w1 ⟨⟨t, rfl, ht⟩, l1⟩
  have hidx : FnC Try.prog 95 #[.string s, .func (.func 96) #[] #[]] w1 fun r w' => r = .bool (decide (0 ≤ Go.Lib.idxFunc outR true s)) ∧ Later w1 w' := by
    refine FnC.of_calls hbCF (Try.strings_ContainsFunc_grows 96 #[] hb96 outR s w1 ?_) ?_
    · intro W x hx hW
      refine calls_of_fn hb96 (value1_c x W) ?_
      rintro v w' ⟨rfl, rfl⟩
      exact ⟨rfl, Later.refl _⟩
    · rintro e w' ⟨rfl, hl⟩
      exact ⟨_, rfl, rfl, hl⟩
  have asc_of : decide (0 ≤ Go.Lib.idxFunc outR true s) = false → Asc s := fun h i hi => by have := idx_out.1 h i hi; omega
  cases t with
  | true =>
    have hno : decide (VlOk s) = false := decide_eq_false fun h => by
      have ha : Asc s := fun i hi => by
        have := h.1 i hi
        simp [vlB] at this
        omega
      obtain ⟨i, hi, hc⟩ := (ht ha).1 rfl
      have := h.1 i hi
      simp [vlB] at this
      omega
    repeat' (first | (simp (disch := omega) only [push_cast, ↓reduceIte, zA, zG, zB, zH, zI, zC, zJ, zK, zL, zD, zE, zF, zM, zN, zO, zP, zQ, reduceCtorEq, not_true_eq_false, not_false_eq_true]) | (first | refine vIfE_of ?_ ?_ | refine vIfD_of ?_ ?_ | refine vIfQ_of ?_ ?_ | refine vIfV_of ?_ ?_) <;> intro _ | refine And.intro (by omega) ?_ | refine drawn_q ?_ | fail)
    first | exact ⟨by rw [hno], l1⟩ | exact l1
  | false =>
    repeat' (first | (simp (disch := omega) only [push_cast, ↓reduceIte, zA, zG, zB, zH, zI, zC, zJ, zK, zL, zD, zE, zF, zM, zN, zO, zP, zQ, reduceCtorEq, not_true_eq_false, not_false_eq_true]) | (first | refine vIfE_of ?_ ?_ | refine vIfD_of ?_ ?_ | refine vIfQ_of ?_ ?_ | refine vIfV_of ?_ ?_) <;> intro _ | refine And.intro (by omega) ?_ | refine drawn_q ?_ | fail)
    refine hidx.mono ?_
    rintro _ w2 ⟨rfl, l2⟩
    cases hi : decide (0 ≤ Go.Lib.idxFunc outR true s) with
    | true =>
      have hno : decide (VlOk s) = false := decide_eq_false fun h => by
        have : decide (0 ≤ Go.Lib.idxFunc outR true s) = false := idx_out.2 fun i hi => by
          have := h.1 i hi
          simp [vlB] at this
          omega
        rw [hi] at this; cases this
      repeat' (first | (simp (disch := omega) only [push_cast, ↓reduceIte, zA, zG, zB, zH, zI, zC, zJ, zK, zL, zD, zE, zF, zM, zN, zO, zP, zQ, reduceCtorEq, not_true_eq_false, not_false_eq_true]) | (first | refine vIfE_of ?_ ?_ | refine vIfD_of ?_ ?_ | refine vIfQ_of ?_ ?_ | refine vIfV_of ?_ ?_) <;> intro _ | refine And.intro (by omega) ?_ | refine drawn_q ?_ | fail)
      first | exact ⟨by rw [hno], (l1.trans l2)⟩ | exact (l1.trans l2)
    | false =>
      have hasc := asc_of hi
      have hyes : decide (VlOk s) = true := decide_eq_true ⟨fun i hii => by
        have h1 := idx_out.1 hi i hii
        have h2 : ¬ (s[i].toNat = 34 ∨ s[i].toNat = 92) := fun hc => by
          have := (ht hasc).2 ⟨i, hii, hc⟩
          cases this
        simp [vlB]
        omega, h24⟩
      repeat' (first | (simp (disch := omega) only [push_cast, ↓reduceIte, zA, zG, zB, zH, zI, zC, zJ, zK, zL, zD, zE, zF, zM, zN, zO, zP, zQ, reduceCtorEq, not_true_eq_false, not_false_eq_true]) | (first | refine vIfE_of ?_ ?_ | refine vIfD_of ?_ ?_ | refine vIfQ_of ?_ ?_ | refine vIfV_of ?_ ?_) <;> intro _ | refine And.intro (by omega) ?_ | refine drawn_q ?_ | fail)
      first | exact ⟨by rw [hyes], (l1.trans l2)⟩ | exact (l1.trans l2)
end Go.Proofs.Ythihbgpaoldbjaa
end
section
set_option linter.unusedSimpArgs false
namespace Go.Proofs.Ythihbgpaoldbjaa
open Go.Vc Go.Key
set_option maxRecDepth 100000
theorem indexFS_c (v : Value) (l : List ByteArray) (f : FuncId) (p : ByteArray → Bool) (w : World) (h : StS w v l) (hf : ∀ x ∈ l, ∀ w', Later w w' → FnC Try.prog f #[.string x] w' fun v w'' => v = .bool (p x) ∧ Later w' w'') :
    FnC Try.prog 93 #[v, .func (.func f) #[] #[]] w fun r w' => (∃ k : Int, r = .int .i64 k ∧ ((0 ≤ k) ↔ l.any p = true)) ∧ Later w w' := by
  obtain ⟨o, c, rfl⟩ := Sl.slice h
  rw [List.length_map] at h ⊢
  have g1 := (Sl.len h).2.1
  have g2 := (Sl.len h).2.2.1
  have hmx : maxLen = 9223372036854775807 := rfl
  rw [hmx] at g2
  refine enter93 _ _ ?_
  unfold B93
  repeat' (first | (simp (disch := omega) only [push_cast, ↓reduceIte, zA, zG, zB, zH, zI, zC, zJ, zK, zL, zD, zE, zF, zM, zN, zO, zP, zQ, reduceCtorEq, not_true_eq_false, not_false_eq_true]) | (first | refine vIfE_of ?_ ?_ | refine vIfD_of ?_ ?_ | refine vIfQ_of ?_ ?_ | refine vIfV_of ?_ ?_) <;> intro _ | refine And.intro (by omega) ?_ | refine drawn_q ?_ | fail)
  refine vc_loop W93_0 (fun i : Nat => [(8, .int .i64 (i : Int))]) (fun i w' => i ≤ l.length ∧ Later w w' ∧ (l.take i).any p = false) (fun i => l.length - i) 0 (by decide) ?_ ?_ ?_
  · simp (disch := omega) only [push_cast, ↓reduceIte, zA, zG, zB, zH, zI, zC, zJ, zK, zL, zD, zE, zF, zM, zN, zO, zP, zQ, reduceCtorEq, not_true_eq_false, not_false_eq_true]
  · exact ⟨by omega, Later.refl _, rfl⟩
  rintro i uu w1 ⟨hi, hl1, hf0⟩
  by_cases hlt : i < l.length
  · cases o with
    | none => have := (Sl.len h).2.2.2 rfl; simp at this; rw [this.1] at hlt; simp at hlt
    | some a =>
    have c0 := StS.atS (Sl.later h hl1) hlt
    have hsn : (l.take (i + 1)).any p = p l[i] := by rw [take_snoc l i hlt, List.any_append, hf0]; simp
    have hyes : p l[i] = true → l.any p = true := fun hp => List.any_eq_true.2 ⟨_, List.getElem_mem _, hp⟩
    have hfx := hf l[i] (List.getElem_mem _) w1 hl1
    generalize l[i] = x at *
    repeat' (first | (simp (disch := omega) only [push_cast, ↓reduceIte, zA, zG, zB, zH, zI, zC, zJ, zK, zL, zD, zE, zF, zM, zN, zO, zP, zQ, reduceCtorEq, not_true_eq_false, not_false_eq_true, c0]) | (first | refine vIfE_of ?_ ?_ | refine vIfD_of ?_ ?_ | refine vIfQ_of ?_ ?_ | refine vIfV_of ?_ ?_) <;> intro _ | refine And.intro (by omega) ?_ | refine drawn_q ?_ | fail)
    refine hfx.mono ?_
    rintro _ w2 ⟨rfl, hl2⟩
    cases hp : p x with
    | true =>
      repeat' (first | (simp (disch := omega) only [push_cast, ↓reduceIte, zA, zG, zB, zH, zI, zC, zJ, zK, zL, zD, zE, zF, zM, zN, zO, zP, zQ, reduceCtorEq, not_true_eq_false, not_false_eq_true]) | (first | refine vIfE_of ?_ ?_ | refine vIfD_of ?_ ?_ | refine vIfQ_of ?_ ?_ | refine vIfV_of ?_ ?_) <;> intro _ | refine And.intro (by omega) ?_ | refine drawn_q ?_ | fail)
      exact ⟨⟨_, rfl, ⟨fun _ => hyes hp, fun _ => by omega⟩⟩, hl1.trans hl2⟩
    | false =>
      repeat' (first | (simp (disch := omega) only [push_cast, ↓reduceIte, zA, zG, zB, zH, zI, zC, zJ, zK, zL, zD, zE, zF, zM, zN, zO, zP, zQ, reduceCtorEq, not_true_eq_false, not_false_eq_true]) | (first | refine vIfE_of ?_ ?_ | refine vIfD_of ?_ ?_ | refine vIfQ_of ?_ ?_ | refine vIfV_of ?_ ?_) <;> intro _ | refine And.intro (by omega) ?_ | refine drawn_q ?_ | fail)
      exact ⟨rfl, i + 1, by simp (disch := omega) only [push_cast, ↓reduceIte, zA, zG, zB, zH, zI, zC, zJ, zK, zL, zD, zE, zF, zM, zN, zO, zP, zQ, reduceCtorEq, not_true_eq_false, not_false_eq_true], ⟨by omega, hl1.trans hl2, by rw [hsn, hp]⟩, by dsimp only; omega⟩
  · have e : i = l.length := by omega
    subst e
    rw [List.take_length] at hf0
    repeat' (first | (simp (disch := omega) only [push_cast, ↓reduceIte, zA, zG, zB, zH, zI, zC, zJ, zK, zL, zD, zE, zF, zM, zN, zO, zP, zQ, reduceCtorEq, not_true_eq_false, not_false_eq_true]) | (first | refine vIfE_of ?_ ?_ | refine vIfD_of ?_ ?_ | refine vIfQ_of ?_ ?_ | refine vIfV_of ?_ ?_) <;> intro _ | refine And.intro (by omega) ?_ | refine drawn_q ?_ | fail)
    exact ⟨⟨_, rfl, ⟨fun h => by omega, fun h => by rw [hf0] at h; cases h⟩⟩, hl1⟩
theorem containsFS_c (v : Value) (l : List ByteArray) (f : FuncId) (p : ByteArray → Bool) (w : World) (h : StS w v l) (hf : ∀ x ∈ l, ∀ w', Later w w' → FnC Try.prog f #[.string x] w' fun v w'' => v = .bool (p x) ∧ Later w' w'') :
    FnC Try.prog 59 #[v, .func (.func f) #[] #[]] w fun r w' => r = .bool (l.any p) ∧ Later w w' := by
  obtain ⟨o, c, rfl⟩ := Sl.slice h
  refine enter59 _ _ ?_
  unfold B59
  repeat' (first | (simp (disch := omega) only [push_cast, ↓reduceIte, zA, zG, zB, zH, zI, zC, zJ, zK, zL, zD, zE, zF, zM, zN, zO, zP, zQ, reduceCtorEq, not_true_eq_false, not_false_eq_true]) | (first | refine vIfE_of ?_ ?_ | refine vIfD_of ?_ ?_ | refine vIfQ_of ?_ ?_ | refine vIfV_of ?_ ?_) <;> intro _ | refine And.intro (by omega) ?_ | refine drawn_q ?_ | fail)
  refine (indexFS_c _ l f p w h hf).mono ?_
  rintro _ w1 ⟨⟨k, rfl, hk⟩, hl1⟩
  have e : decide (0 ≤ k) = l.any p := by rw [Bool.eq_iff_iff, decide_eq_true_eq]; exact hk
  repeat' (first | (simp (disch := omega) only [push_cast, ↓reduceIte, zA, zG, zB, zH, zI, zC, zJ, zK, zL, zD, zE, zF, zM, zN, zO, zP, zQ, reduceCtorEq, not_true_eq_false, not_false_eq_true, e]) | (first | refine vIfE_of ?_ ?_ | refine vIfD_of ?_ ?_ | refine vIfQ_of ?_ ?_ | refine vIfV_of ?_ ?_) <;> intro _ | refine And.intro (by omega) ?_ | refine drawn_q ?_ | fail)
  first | exact ⟨rfl, hl1⟩ | exact hl1
theorem indexFA_c (v : Value) (l : List Ag) (f : FuncId) (p : Ag → Bool) (w : World) (h : AgS w v l) (hf : ∀ x ∈ l, ∀ w', Later w w' → FnC Try.prog f #[agV x] w' fun v w'' => v = .bool (p x) ∧ Later w' w'') :
    FnC Try.prog 97 #[v, .func (.func f) #[] #[]] w fun r w' => (∃ k : Int, r = .int .i64 k ∧ ((0 ≤ k) ↔ l.any p = true)) ∧ Later w w' := by
  obtain ⟨o, c, rfl, g1, g2⟩ := RecS.slice h
  refine enter97 _ _ ?_
  unfold B97
  repeat' (first | (simp (disch := omega) only [push_cast, ↓reduceIte, zA, zG, zB, zH, zI, zC, zJ, zK, zL, zD, zE, zF, zM, zN, zO, zP, zQ, reduceCtorEq, not_true_eq_false, not_false_eq_true]) | (first | refine vIfE_of ?_ ?_ | refine vIfD_of ?_ ?_ | refine vIfQ_of ?_ ?_ | refine vIfV_of ?_ ?_) <;> intro _ | refine And.intro (by omega) ?_ | refine drawn_q ?_ | fail)
  refine vc_loop W97_0 (fun i : Nat => [(8, .int .i64 (i : Int))]) (fun i w' => i ≤ l.length ∧ Later w w' ∧ (l.take i).any p = false) (fun i => l.length - i) 0 (by decide) ?_ ?_ ?_
  · simp (disch := omega) only [push_cast, ↓reduceIte, zA, zG, zB, zH, zI, zC, zJ, zK, zL, zD, zE, zF, zM, zN, zO, zP, zQ, reduceCtorEq, not_true_eq_false, not_false_eq_true]
  · exact ⟨by omega, Later.refl _, rfl⟩
  rintro i uu w1 ⟨hi, hl1, hf0⟩
  by_cases hlt : i < l.length
  · obtain ⟨a, rfl, c0⟩ := RecS.at agC_len (RecS.later h hl1) hlt
    unfold agC at c0
    have hsn : (l.take (i + 1)).any p = p l[i] := by rw [take_snoc l i hlt, List.any_append, hf0]; simp
    have hyes : p l[i] = true → l.any p = true := fun hp => List.any_eq_true.2 ⟨_, List.getElem_mem _, hp⟩
    have hfx := hf l[i] (List.getElem_mem _) w1 hl1
    generalize l[i] = x at *
    repeat' (first | (simp (disch := omega) only [push_cast, ↓reduceIte, zA, zG, zB, zH, zI, zC, zJ, zK, zL, zD, zE, zF, zM, zN, zO, zP, zQ, reduceCtorEq, not_true_eq_false, not_false_eq_true, c0]) | (first | refine vIfE_of ?_ ?_ | refine vIfD_of ?_ ?_ | refine vIfQ_of ?_ ?_ | refine vIfV_of ?_ ?_) <;> intro _ | refine And.intro (by omega) ?_ | refine drawn_q ?_ | fail)
    refine hfx.mono ?_
    rintro _ w2 ⟨rfl, hl2⟩
    cases hp : p x with
    | true =>
      repeat' (first | (simp (disch := omega) only [push_cast, ↓reduceIte, zA, zG, zB, zH, zI, zC, zJ, zK, zL, zD, zE, zF, zM, zN, zO, zP, zQ, reduceCtorEq, not_true_eq_false, not_false_eq_true]) | (first | refine vIfE_of ?_ ?_ | refine vIfD_of ?_ ?_ | refine vIfQ_of ?_ ?_ | refine vIfV_of ?_ ?_) <;> intro _ | refine And.intro (by omega) ?_ | refine drawn_q ?_ | fail)
      exact ⟨⟨_, rfl, ⟨fun _ => hyes hp, fun _ => by omega⟩⟩, hl1.trans hl2⟩
    | false =>
      repeat' (first | (simp (disch := omega) only [push_cast, ↓reduceIte, zA, zG, zB, zH, zI, zC, zJ, zK, zL, zD, zE, zF, zM, zN, zO, zP, zQ, reduceCtorEq, not_true_eq_false, not_false_eq_true]) | (first | refine vIfE_of ?_ ?_ | refine vIfD_of ?_ ?_ | refine vIfQ_of ?_ ?_ | refine vIfV_of ?_ ?_) <;> intro _ | refine And.intro (by omega) ?_ | refine drawn_q ?_ | fail)
      exact ⟨rfl, i + 1, by simp (disch := omega) only [push_cast, ↓reduceIte, zA, zG, zB, zH, zI, zC, zJ, zK, zL, zD, zE, zF, zM, zN, zO, zP, zQ, reduceCtorEq, not_true_eq_false, not_false_eq_true], ⟨by omega, hl1.trans hl2, by rw [hsn, hp]⟩, by dsimp only; omega⟩
  · have e : i = l.length := by omega
    subst e
    rw [List.take_length] at hf0
    repeat' (first | (simp (disch := omega) only [push_cast, ↓reduceIte, zA, zG, zB, zH, zI, zC, zJ, zK, zL, zD, zE, zF, zM, zN, zO, zP, zQ, reduceCtorEq, not_true_eq_false, not_false_eq_true]) | (first | refine vIfE_of ?_ ?_ | refine vIfD_of ?_ ?_ | refine vIfQ_of ?_ ?_ | refine vIfV_of ?_ ?_) <;> intro _ | refine And.intro (by omega) ?_ | refine drawn_q ?_ | fail)
    exact ⟨⟨_, rfl, ⟨fun h => by omega, fun h => by rw [hf0] at h; cases h⟩⟩, hl1⟩
theorem containsFA_c (v : Value) (l : List Ag) (f : FuncId) (p : Ag → Bool) (w : World) (h : AgS w v l) (hf : ∀ x ∈ l, ∀ w', Later w w' → FnC Try.prog f #[agV x] w' fun v w'' => v = .bool (p x) ∧ Later w' w'') :
    FnC Try.prog 62 #[v, .func (.func f) #[] #[]] w fun r w' => r = .bool (l.any p) ∧ Later w w' := by
  obtain ⟨o, c, rfl, g1, g2⟩ := RecS.slice h
  refine enter62 _ _ ?_
  unfold B62
  repeat' (first | (simp (disch := omega) only [push_cast, ↓reduceIte, zA, zG, zB, zH, zI, zC, zJ, zK, zL, zD, zE, zF, zM, zN, zO, zP, zQ, reduceCtorEq, not_true_eq_false, not_false_eq_true]) | (first | refine vIfE_of ?_ ?_ | refine vIfD_of ?_ ?_ | refine vIfQ_of ?_ ?_ | refine vIfV_of ?_ ?_) <;> intro _ | refine And.intro (by omega) ?_ | refine drawn_q ?_ | fail)
  refine (indexFA_c _ l f p w h hf).mono ?_
  rintro _ w1 ⟨⟨k, rfl, hk⟩, hl1⟩
  have e : decide (0 ≤ k) = l.any p := by rw [Bool.eq_iff_iff, decide_eq_true_eq]; exact hk
  repeat' (first | (simp (disch := omega) only [push_cast, ↓reduceIte, zA, zG, zB, zH, zI, zC, zJ, zK, zL, zD, zE, zF, zM, zN, zO, zP, zQ, reduceCtorEq, not_true_eq_false, not_false_eq_true, e]) | (first | refine vIfE_of ?_ ?_ | refine vIfD_of ?_ ?_ | refine vIfQ_of ?_ ?_ | refine vIfV_of ?_ ?_) <;> intro _ | refine And.intro (by omega) ?_ | refine drawn_q ?_ | fail)
  first | exact ⟨rfl, hl1⟩ | exact hl1
theorem indexFI_c (v : Value) (l : List Int) (f : FuncId) (p : Int → Bool) (w : World) (h : Sl w v (l.map i64v)) (hf : ∀ x ∈ l, ∀ w', Later w w' → FnC Try.prog f #[.int .i64 x] w' fun v w'' => v = .bool (p x) ∧ Later w' w'') :
    FnC Try.prog 106 #[v, .func (.func f) #[] #[]] w fun r w' => (∃ k : Int, r = .int .i64 k ∧ ((0 ≤ k) ↔ l.any p = true)) ∧ Later w w' := by
  obtain ⟨o, c, rfl, g1, g2, h, g3⟩ := Sl.openM h
  refine enter106 _ _ ?_
  unfold B106
  repeat' (first | (simp (disch := omega) only [push_cast, ↓reduceIte, zA, zG, zB, zH, zI, zC, zJ, zK, zL, zD, zE, zF, zM, zN, zO, zP, zQ, reduceCtorEq, not_true_eq_false, not_false_eq_true]) | (first | refine vIfE_of ?_ ?_ | refine vIfD_of ?_ ?_ | refine vIfQ_of ?_ ?_ | refine vIfV_of ?_ ?_) <;> intro _ | refine And.intro (by omega) ?_ | refine drawn_q ?_ | fail)
  refine vc_loop W106_0 (fun i : Nat => [(8, .int .i64 (i : Int))]) (fun i w' => i ≤ l.length ∧ Later w w' ∧ (l.take i).any p = false) (fun i => l.length - i) 0 (by decide) ?_ ?_ ?_
  · simp (disch := omega) only [push_cast, ↓reduceIte, zA, zG, zB, zH, zI, zC, zJ, zK, zL, zD, zE, zF, zM, zN, zO, zP, zQ, reduceCtorEq, not_true_eq_false, not_false_eq_true]
  · exact ⟨by omega, Later.refl _, rfl⟩
  rintro i uu w1 ⟨hi, hl1, hf0⟩
  by_cases hlt : i < l.length
  · obtain ⟨a, rfl⟩ := h.some hlt
    have c0 := (h.later hl1).atI hlt
    have hsn : (l.take (i + 1)).any p = p l[i] := by rw [take_snoc l i hlt, List.any_append, hf0]; simp
    have hyes : p l[i] = true → l.any p = true := fun hp => List.any_eq_true.2 ⟨_, List.getElem_mem _, hp⟩
    have hfx := hf l[i] (List.getElem_mem _) w1 hl1
    generalize l[i] = x at *
    repeat' (first | (simp (disch := omega) only [push_cast, ↓reduceIte, zA, zG, zB, zH, zI, zC, zJ, zK, zL, zD, zE, zF, zM, zN, zO, zP, zQ, reduceCtorEq, not_true_eq_false, not_false_eq_true, c0]) | (first | refine vIfE_of ?_ ?_ | refine vIfD_of ?_ ?_ | refine vIfQ_of ?_ ?_ | refine vIfV_of ?_ ?_) <;> intro _ | refine And.intro (by omega) ?_ | refine drawn_q ?_ | fail)
    refine hfx.mono ?_
    rintro _ w2 ⟨rfl, hl2⟩
    cases hp : p x with
    | true =>
      repeat' (first | (simp (disch := omega) only [push_cast, ↓reduceIte, zA, zG, zB, zH, zI, zC, zJ, zK, zL, zD, zE, zF, zM, zN, zO, zP, zQ, reduceCtorEq, not_true_eq_false, not_false_eq_true]) | (first | refine vIfE_of ?_ ?_ | refine vIfD_of ?_ ?_ | refine vIfQ_of ?_ ?_ | refine vIfV_of ?_ ?_) <;> intro _ | refine And.intro (by omega) ?_ | refine drawn_q ?_ | fail)
      exact ⟨⟨_, rfl, ⟨fun _ => hyes hp, fun _ => by omega⟩⟩, hl1.trans hl2⟩
    | false =>
      repeat' (first | (simp (disch := omega) only [push_cast, ↓reduceIte, zA, zG, zB, zH, zI, zC, zJ, zK, zL, zD, zE, zF, zM, zN, zO, zP, zQ, reduceCtorEq, not_true_eq_false, not_false_eq_true]) | (first | refine vIfE_of ?_ ?_ | refine vIfD_of ?_ ?_ | refine vIfQ_of ?_ ?_ | refine vIfV_of ?_ ?_) <;> intro _ | refine And.intro (by omega) ?_ | refine drawn_q ?_ | fail)
      exact ⟨rfl, i + 1, by simp (disch := omega) only [push_cast, ↓reduceIte, zA, zG, zB, zH, zI, zC, zJ, zK, zL, zD, zE, zF, zM, zN, zO, zP, zQ, reduceCtorEq, not_true_eq_false, not_false_eq_true], ⟨by omega, hl1.trans hl2, by rw [hsn, hp]⟩, by dsimp only; omega⟩
  · have e : i = l.length := by omega
    subst e
    rw [List.take_length] at hf0
    repeat' (first | (simp (disch := omega) only [push_cast, ↓reduceIte, zA, zG, zB, zH, zI, zC, zJ, zK, zL, zD, zE, zF, zM, zN, zO, zP, zQ, reduceCtorEq, not_true_eq_false, not_false_eq_true]) | (first | refine vIfE_of ?_ ?_ | refine vIfD_of ?_ ?_ | refine vIfQ_of ?_ ?_ | refine vIfV_of ?_ ?_) <;> intro _ | refine And.intro (by omega) ?_ | refine drawn_q ?_ | fail)
    exact ⟨⟨_, rfl, ⟨fun h => by omega, fun h => by rw [hf0] at h; cases h⟩⟩, hl1⟩
theorem containsFI_c (v : Value) (l : List Int) (f : FuncId) (p : Int → Bool) (w : World) (h : Sl w v (l.map i64v)) (hf : ∀ x ∈ l, ∀ w', Later w w' → FnC Try.prog f #[.int .i64 x] w' fun v w'' => v = .bool (p x) ∧ Later w' w'') :
    FnC Try.prog 89 #[v, .func (.func f) #[] #[]] w fun r w' => r = .bool (l.any p) ∧ Later w w' := by
  have h0 := h
  obtain ⟨o, c, rfl, g1, g2, h, g3⟩ := Sl.openM h0
  refine enter89 _ _ ?_
  unfold B89
  repeat' (first | (simp (disch := omega) only [push_cast, ↓reduceIte, zA, zG, zB, zH, zI, zC, zJ, zK, zL, zD, zE, zF, zM, zN, zO, zP, zQ, reduceCtorEq, not_true_eq_false, not_false_eq_true]) | (first | refine vIfE_of ?_ ?_ | refine vIfD_of ?_ ?_ | refine vIfQ_of ?_ ?_ | refine vIfV_of ?_ ?_) <;> intro _ | refine And.intro (by omega) ?_ | refine drawn_q ?_ | fail)
  refine (indexFI_c _ l f p w h hf).mono ?_
  rintro _ w1 ⟨⟨k, rfl, hk⟩, hl1⟩
  have e : decide (0 ≤ k) = l.any p := by rw [Bool.eq_iff_iff, decide_eq_true_eq]; exact hk
  repeat' (first | (simp (disch := omega) only [push_cast, ↓reduceIte, zA, zG, zB, zH, zI, zC, zJ, zK, zL, zD, zE, zF, zM, zN, zO, zP, zQ, reduceCtorEq, not_true_eq_false, not_false_eq_true, e]) | (first | refine vIfE_of ?_ ?_ | refine vIfD_of ?_ ?_ | refine vIfQ_of ?_ ?_ | refine vIfV_of ?_ ?_) <;> intro _ | refine And.intro (by omega) ?_ | refine drawn_q ?_ | fail)
  first | exact ⟨rfl, hl1⟩ | exact hl1
theorem right1_c (s : ByteArray) (w : World) (hC : s.size ≤ 24 → CanyAt s) : FnC Try.prog 60 #[.string s] w fun r w' => r = .bool (!decide (VlOk s)) ∧ Later w w' := by
  refine enter60 _ ?_
  unfold B60
  repeat' (first | (simp (disch := omega) only [push_cast, ↓reduceIte, zA, zG, zB, zH, zI, zC, zJ, zK, zL, zD, zE, zF, zM, zN, zO, zP, zQ, reduceCtorEq, not_true_eq_false, not_false_eq_true]) | (first | refine vIfE_of ?_ ?_ | refine vIfD_of ?_ ?_ | refine vIfQ_of ?_ ?_ | refine vIfV_of ?_ ?_) <;> intro _ | refine And.intro (by omega) ?_ | refine drawn_q ?_ | fail)
  refine (value_c s w hC).mono ?_
  rintro _ w1 ⟨rfl, hl⟩
  repeat' (first | (simp (disch := omega) only [push_cast, ↓reduceIte, zA, zG, zB, zH, zI, zC, zJ, zK, zL, zD, zE, zF, zM, zN, zO, zP, zQ, reduceCtorEq, not_true_eq_false, not_false_eq_true]) | (first | refine vIfE_of ?_ ?_ | refine vIfD_of ?_ ?_ | refine vIfQ_of ?_ ?_ | refine vIfV_of ?_ ?_) <;> intro _ | refine And.intro (by omega) ?_ | refine drawn_q ?_ | fail)
  first | exact ⟨rfl, hl⟩ | exact hl
theorem check1_c (s : ByteArray) (w : World) (hC : s.size ≤ 24 → CanyAt s) : FnC Try.prog 88 #[.string s] w fun r w' => r = .bool (!decide (VlOk s)) ∧ Later w w' := by
  refine enter88 _ ?_
  unfold B88
  repeat' (first | (simp (disch := omega) only [push_cast, ↓reduceIte, zA, zG, zB, zH, zI, zC, zJ, zK, zL, zD, zE, zF, zM, zN, zO, zP, zQ, reduceCtorEq, not_true_eq_false, not_false_eq_true]) | (first | refine vIfE_of ?_ ?_ | refine vIfD_of ?_ ?_ | refine vIfQ_of ?_ ?_ | refine vIfV_of ?_ ?_) <;> intro _ | refine And.intro (by omega) ?_ | refine drawn_q ?_ | fail)
  refine (value_c s w hC).mono ?_
  rintro _ w1 ⟨rfl, hl⟩
  repeat' (first | (simp (disch := omega) only [push_cast, ↓reduceIte, zA, zG, zB, zH, zI, zC, zJ, zK, zL, zD, zE, zF, zM, zN, zO, zP, zQ, reduceCtorEq, not_true_eq_false, not_false_eq_true]) | (first | refine vIfE_of ?_ ?_ | refine vIfD_of ?_ ?_ | refine vIfQ_of ?_ ?_ | refine vIfV_of ?_ ?_) <;> intro _ | refine And.intro (by omega) ?_ | refine drawn_q ?_ | fail)
  first | exact ⟨rfl, hl⟩ | exact hl
theorem right2_c (a : Ag) (w : World) : FnC Try.prog 63 #[agV a] w fun r w' => r = .bool (!decide (ARt a)) ∧ Later w w' := by
  unfold agV
  refine enter63 _ ?_
  unfold B63
  have eca : (Value.agg #[.int .i64 a.1, .int .i64 a.2.1, .int .i64 a.2.2]).cells = #[.int .i64 a.1, .int .i64 a.2.1, .int .i64 a.2.2] := rfl
  have l1 := later_alloc w (.cells #[.int .i64 a.1, .int .i64 a.2.1, .int .i64 a.2.2] 64)
  have c1 : cellsAt (w.alloc (.cells #[.int .i64 a.1, .int .i64 a.2.1, .int .i64 a.2.2] 64)) ⟨w.heap.size, 0, none⟩ 3 = some [.int .i64 a.1, .int .i64 a.2.1, .int .i64 a.2.2] := (box3 w _ _ _ _).2.2.2
  repeat' (first | (simp (disch := omega) only [push_cast, ↓reduceIte, zA, zG, zB, zH, zI, zC, zJ, zK, zL, zD, zE, zF, zM, zN, zO, zP, zQ, reduceCtorEq, not_true_eq_false, not_false_eq_true, eca]) | (first | refine vIfE_of ?_ ?_ | refine vIfD_of ?_ ?_ | refine vIfQ_of ?_ ?_ | refine vIfV_of ?_ ?_) <;> intro _ | refine And.intro (by omega) ?_ | fail)
  generalize w.alloc (.cells #[.int .i64 a.1, .int .i64 a.2.1, .int .i64 a.2.2] 64) = w1 at *
  repeat' (first | (simp (disch := omega) only [push_cast, ↓reduceIte, zA, zG, zB, zH, zI, zC, zJ, zK, zL, zD, zE, zF, zM, zN, zO, zP, zQ, reduceCtorEq, not_true_eq_false, not_false_eq_true, c1]) | (first | refine vIfE_of ?_ ?_ | refine vIfD_of ?_ ?_ | refine vIfQ_of ?_ ?_ | refine vIfV_of ?_ ?_) <;> intro _ | refine And.intro (by omega) ?_ | refine drawn_q ?_ | fail)
  refine (aright_c a w1).mono ?_
  rintro _ w2 ⟨rfl, hl⟩
  repeat' (first | (simp (disch := omega) only [push_cast, ↓reduceIte, zA, zG, zB, zH, zI, zC, zJ, zK, zL, zD, zE, zF, zM, zN, zO, zP, zQ, reduceCtorEq, not_true_eq_false, not_false_eq_true]) | (first | refine vIfE_of ?_ ?_ | refine vIfD_of ?_ ?_ | refine vIfQ_of ?_ ?_ | refine vIfV_of ?_ ?_) <;> intro _ | refine And.intro (by omega) ?_ | refine drawn_q ?_ | fail)
  first | exact ⟨rfl, (l1.trans hl)⟩ | exact (l1.trans hl)
def fiB (n : Int) : Bool := decide (Fi n)
theorem check2_c (n : Int) (w : World) : FnC Try.prog 90 #[.int .i64 n] w fun r w' => r = .bool (!fiB n) ∧ Later w w' := by
  refine enter90 _ ?_
  unfold B90
  unfold fiB
  by_cases h1 : n < -4611686018427387904
  · have e : decide (Fi n) = false := decide_eq_false fun h => by have := h.1; omega
    rw [e]
    repeat' (first | (simp (disch := omega) only [push_cast, ↓reduceIte, zA, zG, zB, zH, zI, zC, zJ, zK, zL, zD, zE, zF, zM, zN, zO, zP, zQ, reduceCtorEq, not_true_eq_false, not_false_eq_true]) | (first | refine vIfE_of ?_ ?_ | refine vIfD_of ?_ ?_ | refine vIfQ_of ?_ ?_ | refine vIfV_of ?_ ?_) <;> intro _ | refine And.intro (by omega) ?_ | refine drawn_q ?_ | fail)
    first | exact ⟨rfl, Later.refl _⟩ | exact Later.refl _
  · by_cases h2 : 4611686018427387904 < n
    · have e : decide (Fi n) = false := decide_eq_false fun h => by have := h.2; omega
      rw [e]
      repeat' (first | (simp (disch := omega) only [push_cast, ↓reduceIte, zA, zG, zB, zH, zI, zC, zJ, zK, zL, zD, zE, zF, zM, zN, zO, zP, zQ, reduceCtorEq, not_true_eq_false, not_false_eq_true]) | (first | refine vIfE_of ?_ ?_ | refine vIfD_of ?_ ?_ | refine vIfQ_of ?_ ?_ | refine vIfV_of ?_ ?_) <;> intro _ | refine And.intro (by omega) ?_ | refine drawn_q ?_ | fail)
      first | exact ⟨(by simp [h2]), Later.refl _⟩ | exact Later.refl _
    · have e : decide (Fi n) = true := decide_eq_true ⟨by omega, by omega⟩
      rw [e]
      repeat' (first | (simp (disch := omega) only [push_cast, ↓reduceIte, zA, zG, zB, zH, zI, zC, zJ, zK, zL, zD, zE, zF, zM, zN, zO, zP, zQ, reduceCtorEq, not_true_eq_false, not_false_eq_true]) | (first | refine vIfE_of ?_ ?_ | refine vIfD_of ?_ ?_ | refine vIfQ_of ?_ ?_ | refine vIfV_of ?_ ?_) <;> intro _ | refine And.intro (by omega) ?_ | refine drawn_q ?_ | fail)
      first | exact ⟨(by simp [h2]), Later.refl _⟩ | exact Later.refl _
theorem any_not {α : Type} (l : List α) (P : α → Prop) [DecidablePred P] : (l.any fun x => !decide (P x)) = !decide (∀ x ∈ l, P x) := by
  by_cases h : ∀ x ∈ l, P x
  · rw [decide_eq_true h, List.any_eq_false.2]; rfl
    intro x hx; simp [h x hx]
  · rw [decide_eq_false h, List.any_eq_true.2]; rfl
    apply Classical.byContradiction
    intro hn
    exact h fun x hx => Classical.byContradiction fun hp => hn ⟨x, hx, by simp [hp]⟩
/-- Of every value it is told whether it has what bars. -/
def CanyL (l : List ByteArray) : Prop := ∀ s ∈ l, s.size ≤ 24 → CanyAt s
theorem rowright_c (dv mv : Value) (d m : List ByteArray) (y : El) (w : World) (h : ScIs w dv mv d m) (hy : EIs w y) (hC : CanyL y.d) : FnC Try.prog 27 #[scV dv mv, elV y] w fun r w' => r = .bool (decide (RtOk d.length m.length y)) ∧ Later w w' := by
  unfold scV elV
  obtain ⟨od, cd, hdv⟩ := Sl.slice h.dS
  obtain ⟨om, cm, hmv⟩ := Sl.slice h.mS
  have hyd := hy.1
  have hya := hy.2
  obtain ⟨oy, cy, hydv⟩ := Sl.slice hy.1
  obtain ⟨oa, ca, hyav, ga1, ga2⟩ := RecS.slice hy.2
  rw [List.length_map] at hdv hmv hydv
  refine enter27 _ _ ?_
  unfold B27
  obtain ⟨l2, s2, F⟩ := boxSR w dv mv y
  have s1 := World.size_alloc w (.cells #[dv, mv] 24)
  have eca : (Value.agg #[dv, mv]).cells = #[dv, mv] := rfl
  have ecb : (Value.agg #[.int .i64 y.t, y.dv, .int .i64 y.n, y.av]).cells = #[.int .i64 y.t, y.dv, .int .i64 y.n, y.av] := rfl
  repeat' (first | (simp (disch := omega) only [push_cast, ↓reduceIte, zA, zG, zB, zH, zI, zC, zJ, zK, zL, zD, zE, zF, zM, zN, zO, zP, zQ, reduceCtorEq, not_true_eq_false, not_false_eq_true, eca, ecb, s1, s2]) | (first | refine vIfE_of ?_ ?_ | refine vIfD_of ?_ ?_ | refine vIfQ_of ?_ ?_ | refine vIfV_of ?_ ?_) <;> intro _ | refine And.intro (by omega) ?_ | fail)
  generalize ((w.alloc (.cells #[dv, mv] 24)).alloc (.cells #[.int .i64 y.t, y.dv, .int .i64 y.n, y.av] 35)) = w2 at *
  have F' : ∀ w', Later w2 w' → w'.cell? ⟨w.heap.size, 0, none⟩ = some (.slice od d.length cd) ∧ w'.cell? ⟨w.heap.size, 1, none⟩ = some (.slice om m.length cm) ∧
      w'.cell? ⟨w.heap.size + 1, 0, none⟩ = some (.int .i64 y.t) ∧ w'.cell? ⟨w.heap.size + 1, 1, none⟩ = some (.slice oy y.d.length cy) ∧ w'.cell? ⟨w.heap.size + 1, 2, none⟩ = some (.int .i64 y.n) ∧ w'.cell? ⟨w.heap.size + 1, 3, none⟩ = some (.slice oa y.a.length ca) := by
    intro w' hl
    obtain ⟨f0, f1, _, b0, b1, b2, b3, _⟩ := F w' hl
    rw [hdv] at f0
    rw [hmv] at f1
    rw [hydv] at b1
    rw [hyav] at b3
    exact ⟨f0, f1, b0, b1, b2, b3⟩
  rw [hydv] at hyd
  rw [hyav] at hya
  clear F hdv hmv hydv hyav eca ecb s1 s2
  obtain ⟨f0, f1, b0, b1, b2, b3⟩ := F' w2 (Later.refl _)
  have no : (¬ RtOk d.length m.length y) → decide (RtOk d.length m.length y) = false := fun h => decide_eq_false h
  by_cases h1 : y.d.length = d.length
  case neg =>
    have hno := no fun h => h1 h.1
    have e1 : decide (y.d.length = d.length) = false := decide_eq_false h1
    repeat' (first | (simp (disch := omega) only [push_cast, ↓reduceIte, zA, zG, zB, zH, zI, zC, zJ, zK, zL, zD, zE, zF, zM, zN, zO, zP, zQ, reduceCtorEq, not_true_eq_false, not_false_eq_true, f0, f1, b0, b1, b2, b3, addr_add_eq, Nat.zero_add]) | (first | refine vIfE_of ?_ ?_ | refine vIfD_of ?_ ?_ | refine vIfQ_of ?_ ?_ | refine vIfV_of ?_ ?_) <;> intro _ | refine And.intro (by omega) ?_ | refine drawn_q ?_ | fail)
    all_goals first | exact ⟨by rw [hno], l2⟩ | exact l2
  by_cases h2 : y.a.length = m.length
  case neg =>
    have hno := no fun h => h2 h.2.1
    repeat' (first | (simp (disch := omega) only [push_cast, ↓reduceIte, zA, zG, zB, zH, zI, zC, zJ, zK, zL, zD, zE, zF, zM, zN, zO, zP, zQ, reduceCtorEq, not_true_eq_false, not_false_eq_true, f0, f1, b0, b1, b2, b3, addr_add_eq, Nat.zero_add]) | (first | refine vIfE_of ?_ ?_ | refine vIfD_of ?_ ?_ | refine vIfQ_of ?_ ?_ | refine vIfV_of ?_ ?_) <;> intro _ | refine And.intro (by omega) ?_ | refine drawn_q ?_ | fail)
    all_goals first | exact ⟨by rw [hno], l2⟩ | exact l2
  by_cases h3 : 0 ≤ y.t ∧ y.t ≤ 1099511627776 ∧ 1 ≤ y.n ∧ y.n ≤ 1048576
  case neg =>
    have hno := no fun h => h3 h.2.2.2.2
    repeat' (first | (simp (disch := omega) only [push_cast, ↓reduceIte, zA, zG, zB, zH, zI, zC, zJ, zK, zL, zD, zE, zF, zM, zN, zO, zP, zQ, reduceCtorEq, not_true_eq_false, not_false_eq_true, f0, f1, b0, b1, b2, b3, addr_add_eq, Nat.zero_add]) | (first | refine vIfE_of ?_ ?_ | refine vIfD_of ?_ ?_ | refine vIfQ_of ?_ ?_ | refine vIfV_of ?_ ?_) <;> intro _ | refine And.intro (by omega) ?_ | refine drawn_q ?_ | fail)
    all_goals first | exact ⟨by rw [hno], l2⟩ | exact l2
  obtain ⟨t1, t2, t3, t4⟩ := h3
  repeat' (first | (simp (disch := omega) only [push_cast, ↓reduceIte, zA, zG, zB, zH, zI, zC, zJ, zK, zL, zD, zE, zF, zM, zN, zO, zP, zQ, reduceCtorEq, not_true_eq_false, not_false_eq_true, f0, f1, b0, b1, b2, b3, decide_true, addr_add_eq, Nat.zero_add]) | (first | refine vIfE_of ?_ ?_ | refine vIfD_of ?_ ?_ | refine vIfQ_of ?_ ?_ | refine vIfV_of ?_ ?_) <;> intro _ | refine And.intro (by omega) ?_ | refine drawn_q ?_ | fail)
  refine (containsFS_c _ y.d _ (fun s => !decide (VlOk s)) w2 (Sl.later hyd l2) (fun s hs w' _ => right1_c s w' (hC s hs))).mono ?_
  rintro _ w3 ⟨rfl, l3⟩
  obtain ⟨f0, f1, b0, b1, b2, b3⟩ := F' w3 l3
  rw [any_not]
  by_cases hv : ∀ s ∈ y.d, VlOk s
  case neg =>
    have hno := no fun h => hv h.2.2.1
    rw [decide_eq_false hv]
    repeat' (first | (simp (disch := omega) only [push_cast, ↓reduceIte, zA, zG, zB, zH, zI, zC, zJ, zK, zL, zD, zE, zF, zM, zN, zO, zP, zQ, reduceCtorEq, not_true_eq_false, not_false_eq_true]) | (first | refine vIfE_of ?_ ?_ | refine vIfD_of ?_ ?_ | refine vIfQ_of ?_ ?_ | refine vIfV_of ?_ ?_) <;> intro _ | refine And.intro (by omega) ?_ | refine drawn_q ?_ | fail)
    first | exact ⟨by rw [hno], (l2.trans l3)⟩ | exact (l2.trans l3)
  rw [decide_eq_true hv]
  repeat' (first | (simp (disch := omega) only [push_cast, ↓reduceIte, zA, zG, zB, zH, zI, zC, zJ, zK, zL, zD, zE, zF, zM, zN, zO, zP, zQ, reduceCtorEq, not_true_eq_false, not_false_eq_true, b3, addr_add_eq, Nat.zero_add]) | (first | refine vIfE_of ?_ ?_ | refine vIfD_of ?_ ?_ | refine vIfQ_of ?_ ?_ | refine vIfV_of ?_ ?_) <;> intro _ | refine And.intro (by omega) ?_ | refine drawn_q ?_ | fail)
  refine (containsFA_c _ y.a _ (fun a => !decide (ARt a)) w3 (RecS.later hya (l2.trans l3)) (fun a ha w' _ => right2_c a w')).mono ?_
  rintro _ w4 ⟨rfl, l4⟩
  rw [any_not]
  by_cases hr : ∀ a ∈ y.a, ARt a
  case neg =>
    have hno := no fun h => hr h.2.2.2.1
    rw [decide_eq_false hr]
    repeat' (first | (simp (disch := omega) only [push_cast, ↓reduceIte, zA, zG, zB, zH, zI, zC, zJ, zK, zL, zD, zE, zF, zM, zN, zO, zP, zQ, reduceCtorEq, not_true_eq_false, not_false_eq_true]) | (first | refine vIfE_of ?_ ?_ | refine vIfD_of ?_ ?_ | refine vIfQ_of ?_ ?_ | refine vIfV_of ?_ ?_) <;> intro _ | refine And.intro (by omega) ?_ | refine drawn_q ?_ | fail)
    first | exact ⟨by rw [hno], ((l2.trans l3).trans l4)⟩ | exact ((l2.trans l3).trans l4)
  rw [decide_eq_true hr]
  have hyes : decide (RtOk d.length m.length y) = true := decide_eq_true ⟨h1, h2, hv, hr, t1, t2, t3, t4⟩
  repeat' (first | (simp (disch := omega) only [push_cast, ↓reduceIte, zA, zG, zB, zH, zI, zC, zJ, zK, zL, zD, zE, zF, zM, zN, zO, zP, zQ, reduceCtorEq, not_true_eq_false, not_false_eq_true]) | (first | refine vIfE_of ?_ ?_ | refine vIfD_of ?_ ?_ | refine vIfQ_of ?_ ?_ | refine vIfV_of ?_ ?_) <;> intro _ | refine And.intro (by omega) ?_ | refine drawn_q ?_ | fail)
  first | exact ⟨by rw [hyes], ((l2.trans l3).trans l4)⟩ | exact ((l2.trans l3).trans l4)
/-- An event, and where its lists lie. -/
structure Ev where
  t : Int
  d : List ByteArray
  k : List Int
  dv : Value
  kv : Value
def evV (e : Ev) : Value := .agg #[.int .i64 e.t, e.dv, e.kv]
structure EvIs (w : World) (e : Ev) : Prop where
  dS : StS w e.dv e.d
  kS : Sl w e.kv (e.k.map i64v)
theorem EvIs.later {w w' : World} {e : Ev} (h : EvIs w e) (hl : Later w w') : EvIs w' e := ⟨Sl.later h.dS hl, Sl.later h.kS hl⟩
/-- What is told of an event. -/
def evErr (nd nm : Nat) (e : Ev) : Int := if e.d.length ≠ nd ∨ e.k.length ≠ nm then 101 else if (¬ ∀ s ∈ e.d, VlOk s) ∨ (¬ ∀ n ∈ e.k, Fi n) then 102 else if e.t < 0 ∨ 1099511627776 < e.t then 181 else 0
/-- A schema and an event that came as values: their boxes. -/
theorem boxSE (w : World) (dv mv : Value) (y : Ev) : Later w ((w.alloc (.cells #[dv, mv] 24)).alloc (.cells #[.int .i64 y.t, y.dv, y.kv] 49)) ∧ ((w.alloc (.cells #[dv, mv] 24)).alloc (.cells #[.int .i64 y.t, y.dv, y.kv] 49)).heap.size = w.heap.size + 2 ∧
    ∀ w', Later ((w.alloc (.cells #[dv, mv] 24)).alloc (.cells #[.int .i64 y.t, y.dv, y.kv] 49)) w' →
      w'.cell? ⟨w.heap.size, 0, none⟩ = some dv ∧ w'.cell? ⟨w.heap.size, 1, none⟩ = some mv ∧ cellsAt w' ⟨w.heap.size, 0, none⟩ 2 = some [dv, mv] ∧
      w'.cell? ⟨w.heap.size + 1, 0, none⟩ = some (.int .i64 y.t) ∧ w'.cell? ⟨w.heap.size + 1, 1, none⟩ = some y.dv ∧ w'.cell? ⟨w.heap.size + 1, 2, none⟩ = some y.kv ∧ cellsAt w' ⟨w.heap.size + 1, 0, none⟩ 3 = some [.int .i64 y.t, y.dv, y.kv] := by
  obtain ⟨l1, s1, F⟩ := box2 w dv mv 24
  generalize w.alloc (.cells #[dv, mv] 24) = w1 at *
  have l2 := later_alloc w1 (.cells #[.int .i64 y.t, y.dv, y.kv] 49)
  have B2 := Blk.new w1 #[.int .i64 y.t, y.dv, y.kv] 49
  have s2 : (w1.alloc (.cells #[.int .i64 y.t, y.dv, y.kv] 49)).heap.size = w1.heap.size + 1 := World.size_alloc w1 _
  generalize w1.alloc (.cells #[.int .i64 y.t, y.dv, y.kv] 49) = w2 at *
  rw [s1] at B2
  refine ⟨l1.trans l2, by omega, fun w' hl => ?_⟩
  obtain ⟨f0, f1, f2⟩ := F w' (l2.trans hl)
  obtain ⟨b0, b1, b2, b3⟩ := box3_later B2 hl
  exact ⟨f0, f1, f2, b0, b1, b2, b3⟩
theorem check_c (dv mv : Value) (d m : List ByteArray) (y : Ev) (w : World) (h : ScIs w dv mv d m) (hy : EvIs w y) (hC : CanyL y.d) : FnC Try.prog 55 #[scV dv mv, evV y] w fun r w' => r = .int .i64 (evErr d.length m.length y) ∧ Later w w' := by
  unfold scV evV
  obtain ⟨od, cd, hdv⟩ := Sl.slice h.dS
  obtain ⟨om, cm, hmv⟩ := Sl.slice h.mS
  have hyd := hy.dS
  have hya := hy.kS
  obtain ⟨oy, cy, hydv⟩ := Sl.slice hy.dS
  obtain ⟨oa, ca, hyav⟩ := Sl.slice hy.kS
  rw [List.length_map] at hdv hmv hydv hyav
  refine enter55 _ _ ?_
  unfold B55
  obtain ⟨l2, s2, F⟩ := boxSE w dv mv y
  have s1 := World.size_alloc w (.cells #[dv, mv] 24)
  have eca : (Value.agg #[dv, mv]).cells = #[dv, mv] := rfl
  have ecb : (Value.agg #[.int .i64 y.t, y.dv, y.kv]).cells = #[.int .i64 y.t, y.dv, y.kv] := rfl
  repeat' (first | (simp (disch := omega) only [push_cast, ↓reduceIte, zA, zG, zB, zH, zI, zC, zJ, zK, zL, zD, zE, zF, zM, zN, zO, zP, zQ, reduceCtorEq, not_true_eq_false, not_false_eq_true, eca, ecb, s1, s2]) | (first | refine vIfE_of ?_ ?_ | refine vIfD_of ?_ ?_ | refine vIfQ_of ?_ ?_ | refine vIfV_of ?_ ?_) <;> intro _ | refine And.intro (by omega) ?_ | fail)
  generalize ((w.alloc (.cells #[dv, mv] 24)).alloc (.cells #[.int .i64 y.t, y.dv, y.kv] 49)) = w2 at *
  have F' : ∀ w', Later w2 w' → w'.cell? ⟨w.heap.size, 0, none⟩ = some (.slice od d.length cd) ∧ w'.cell? ⟨w.heap.size, 1, none⟩ = some (.slice om m.length cm) ∧
      w'.cell? ⟨w.heap.size + 1, 0, none⟩ = some (.int .i64 y.t) ∧ w'.cell? ⟨w.heap.size + 1, 1, none⟩ = some (.slice oy y.d.length cy) ∧ w'.cell? ⟨w.heap.size + 1, 2, none⟩ = some (.slice oa y.k.length ca) := by
    intro w' hl
    obtain ⟨f0, f1, _, b0, b1, b2, _⟩ := F w' hl
    rw [hdv] at f0
    rw [hmv] at f1
    rw [hydv] at b1
    rw [hyav] at b2
    exact ⟨f0, f1, b0, b1, b2⟩
  rw [hydv] at hyd
  rw [hyav] at hya
  clear F hdv hmv hydv hyav eca ecb s1 s2
  obtain ⟨f0, f1, b0, b1, b2⟩ := F' w2 (Later.refl _)
  by_cases h1 : y.d.length = d.length
  case neg =>
    have e : evErr d.length m.length y = 101 := if_pos (.inl h1)
    repeat' (first | (simp (disch := omega) only [push_cast, ↓reduceIte, zA, zG, zB, zH, zI, zC, zJ, zK, zL, zD, zE, zF, zM, zN, zO, zP, zQ, reduceCtorEq, not_true_eq_false, not_false_eq_true, f0, f1, b0, b1, b2, addr_add_eq, Nat.zero_add]) | (first | refine vIfE_of ?_ ?_ | refine vIfD_of ?_ ?_ | refine vIfQ_of ?_ ?_ | refine vIfV_of ?_ ?_) <;> intro _ | refine And.intro (by omega) ?_ | refine drawn_q ?_ | fail)
    all_goals first | exact ⟨by rw [e], l2⟩ | exact l2
  by_cases h2 : y.k.length = m.length
  case neg =>
    have e : evErr d.length m.length y = 101 := if_pos (.inr h2)
    repeat' (first | (simp (disch := omega) only [push_cast, ↓reduceIte, zA, zG, zB, zH, zI, zC, zJ, zK, zL, zD, zE, zF, zM, zN, zO, zP, zQ, reduceCtorEq, not_true_eq_false, not_false_eq_true, f0, f1, b0, b1, b2, addr_add_eq, Nat.zero_add]) | (first | refine vIfE_of ?_ ?_ | refine vIfD_of ?_ ?_ | refine vIfQ_of ?_ ?_ | refine vIfV_of ?_ ?_) <;> intro _ | refine And.intro (by omega) ?_ | refine drawn_q ?_ | fail)
    all_goals first | exact ⟨by rw [e], l2⟩ | exact l2
  have e0 : evErr d.length m.length y = if (¬ ∀ s ∈ y.d, VlOk s) ∨ (¬ ∀ n ∈ y.k, Fi n) then 102 else if y.t < 0 ∨ 1099511627776 < y.t then 181 else 0 := if_neg (by omega)
  repeat' (first | (simp (disch := omega) only [push_cast, ↓reduceIte, zA, zG, zB, zH, zI, zC, zJ, zK, zL, zD, zE, zF, zM, zN, zO, zP, zQ, reduceCtorEq, not_true_eq_false, not_false_eq_true, f0, f1, b0, b1, b2, addr_add_eq, Nat.zero_add]) | (first | refine vIfE_of ?_ ?_ | refine vIfD_of ?_ ?_ | refine vIfQ_of ?_ ?_ | refine vIfV_of ?_ ?_) <;> intro _ | refine And.intro (by omega) ?_ | refine drawn_q ?_ | fail)
  refine (containsFS_c _ y.d _ (fun s => !decide (VlOk s)) w2 (Sl.later hyd l2) (fun s hs w' _ => check1_c s w' (hC s hs))).mono ?_
  rintro _ w3 ⟨rfl, l3⟩
  obtain ⟨f0, f1, b0, b1, b2⟩ := F' w3 l3
  rw [any_not]
  by_cases hv : ∀ s ∈ y.d, VlOk s
  case neg =>
    have e : evErr d.length m.length y = 102 := e0.trans (if_pos (.inl hv))
    rw [decide_eq_false hv]
    repeat' (first | (simp (disch := omega) only [push_cast, ↓reduceIte, zA, zG, zB, zH, zI, zC, zJ, zK, zL, zD, zE, zF, zM, zN, zO, zP, zQ, reduceCtorEq, not_true_eq_false, not_false_eq_true]) | (first | refine vIfE_of ?_ ?_ | refine vIfD_of ?_ ?_ | refine vIfQ_of ?_ ?_ | refine vIfV_of ?_ ?_) <;> intro _ | refine And.intro (by omega) ?_ | refine drawn_q ?_ | fail)
    all_goals first | exact ⟨by rw [e], (l2.trans l3)⟩ | exact (l2.trans l3)
  rw [decide_eq_true hv]
  repeat' (first | (simp (disch := omega) only [push_cast, ↓reduceIte, zA, zG, zB, zH, zI, zC, zJ, zK, zL, zD, zE, zF, zM, zN, zO, zP, zQ, reduceCtorEq, not_true_eq_false, not_false_eq_true, b2, addr_add_eq, Nat.zero_add]) | (first | refine vIfE_of ?_ ?_ | refine vIfD_of ?_ ?_ | refine vIfQ_of ?_ ?_ | refine vIfV_of ?_ ?_) <;> intro _ | refine And.intro (by omega) ?_ | refine drawn_q ?_ | fail)
  refine (containsFI_c _ y.k _ (fun n => !fiB n) w3 (Sl.later hya (l2.trans l3)) (fun n hn w' _ => check2_c n w')).mono ?_
  rintro _ w4 ⟨rfl, l4⟩
  have l24 := (l2.trans l3).trans l4
  obtain ⟨f0, f1, b0, b1, b2⟩ := F' w4 (l3.trans l4)
  have ea : (y.k.any fun n => !fiB n) = !decide (∀ n ∈ y.k, Fi n) := any_not y.k Fi
  rw [ea]
  by_cases hr : ∀ n ∈ y.k, Fi n
  case neg =>
    have e : evErr d.length m.length y = 102 := e0.trans (if_pos (.inr hr))
    rw [decide_eq_false hr]
    repeat' (first | (simp (disch := omega) only [push_cast, ↓reduceIte, zA, zG, zB, zH, zI, zC, zJ, zK, zL, zD, zE, zF, zM, zN, zO, zP, zQ, reduceCtorEq, not_true_eq_false, not_false_eq_true]) | (first | refine vIfE_of ?_ ?_ | refine vIfD_of ?_ ?_ | refine vIfQ_of ?_ ?_ | refine vIfV_of ?_ ?_) <;> intro _ | refine And.intro (by omega) ?_ | refine drawn_q ?_ | fail)
    all_goals first | exact ⟨by rw [e], l24⟩ | exact l24
  rw [decide_eq_true hr]
  have e1 : evErr d.length m.length y = if y.t < 0 ∨ 1099511627776 < y.t then 181 else 0 := e0.trans (if_neg (fun h => h.elim (fun h => h hv) (fun h => h hr)))
  by_cases ht : y.t < 0 ∨ 1099511627776 < y.t
  · have e : evErr d.length m.length y = 181 := e1.trans (if_pos ht)
    repeat' (first | (simp (disch := omega) only [push_cast, ↓reduceIte, zA, zG, zB, zH, zI, zC, zJ, zK, zL, zD, zE, zF, zM, zN, zO, zP, zQ, reduceCtorEq, not_true_eq_false, not_false_eq_true, b0, addr_add_eq, Nat.zero_add]) | (first | refine vIfE_of ?_ ?_ | refine vIfD_of ?_ ?_ | refine vIfQ_of ?_ ?_ | refine vIfV_of ?_ ?_) <;> intro _ | refine And.intro (by omega) ?_ | refine drawn_q ?_ | fail)
    all_goals first | (exfalso; omega) | skip
    all_goals first | exact ⟨by rw [e], l24⟩ | exact l24
  · have e : evErr d.length m.length y = 0 := e1.trans (if_neg ht)
    repeat' (first | (simp (disch := omega) only [push_cast, ↓reduceIte, zA, zG, zB, zH, zI, zC, zJ, zK, zL, zD, zE, zF, zM, zN, zO, zP, zQ, reduceCtorEq, not_true_eq_false, not_false_eq_true, b0, addr_add_eq, Nat.zero_add]) | (first | refine vIfE_of ?_ ?_ | refine vIfD_of ?_ ?_ | refine vIfQ_of ?_ ?_ | refine vIfV_of ?_ ?_) <;> intro _ | refine And.intro (by omega) ?_ | refine drawn_q ?_ | fail)
    all_goals first | (exfalso; omega) | skip
    all_goals first | exact ⟨by rw [e], l24⟩ | exact l24
theorem dcheck_c (dv mv : Value) (d m : List ByteArray) (y : Ev) (w : World) (h : ScIs w dv mv d m) (hy : EvIs w y) (hz : StZ y.d) : FnC Try.prog 57 #[scV dv mv, evV y] w fun r w' => r = .int .i64 (evErr d.length m.length y) ∧ Later w w' := by
  unfold scV evV
  obtain ⟨od, cd, hdv⟩ := Sl.slice h.dS
  obtain ⟨om, cm, hmv⟩ := Sl.slice h.mS
  have hyd := hy.dS
  have hya := hy.kS
  obtain ⟨oy, cy, hydv⟩ := Sl.slice hy.dS
  obtain ⟨oa, ca, hyav, gk1, gk2, hyk, _⟩ := Sl.openM hy.kS
  have gd := (Sl.len (hydv ▸ hyd)).2
  have hmax : maxLen = 9223372036854775807 := rfl
  rw [List.length_map] at hdv hmv hydv gd
  rw [hmax] at gd
  refine enter57 _ _ ?_
  unfold B57
  obtain ⟨l2, s2, F⟩ := boxSE w dv mv y
  have s1 := World.size_alloc w (.cells #[dv, mv] 24)
  have eca : (Value.agg #[dv, mv]).cells = #[dv, mv] := rfl
  have ecb : (Value.agg #[.int .i64 y.t, y.dv, y.kv]).cells = #[.int .i64 y.t, y.dv, y.kv] := rfl
  repeat' (first | (simp (disch := omega) only [push_cast, ↓reduceIte, zA, zG, zB, zH, zI, zC, zJ, zK, zL, zD, zE, zF, zM, zN, zO, zP, zQ, reduceCtorEq, not_true_eq_false, not_false_eq_true, eca, ecb, s1, s2]) | (first | refine vIfE_of ?_ ?_ | refine vIfD_of ?_ ?_ | refine vIfQ_of ?_ ?_ | refine vIfV_of ?_ ?_) <;> intro _ | refine And.intro (by omega) ?_ | fail)
  generalize ((w.alloc (.cells #[dv, mv] 24)).alloc (.cells #[.int .i64 y.t, y.dv, y.kv] 49)) = w2 at *
  have F' : ∀ w', Later w2 w' → w'.cell? ⟨w.heap.size, 0, none⟩ = some (.slice od d.length cd) ∧ w'.cell? ⟨w.heap.size, 1, none⟩ = some (.slice om m.length cm) ∧
      w'.cell? ⟨w.heap.size + 1, 0, none⟩ = some (.int .i64 y.t) ∧ w'.cell? ⟨w.heap.size + 1, 1, none⟩ = some (.slice oy y.d.length cy) ∧ w'.cell? ⟨w.heap.size + 1, 2, none⟩ = some (.slice oa y.k.length ca) := by
    intro w' hl
    obtain ⟨f0, f1, _, b0, b1, b2, _⟩ := F w' hl
    rw [hdv] at f0
    rw [hmv] at f1
    rw [hydv] at b1
    rw [hyav] at b2
    exact ⟨f0, f1, b0, b1, b2⟩
  rw [hydv] at hyd
  clear F hdv hmv hydv eca ecb s1 s2
  obtain ⟨f0, f1, b0, b1, b2⟩ := F' w2 (Later.refl _)
  by_cases h1 : y.d.length = d.length
  case neg =>
    have e : evErr d.length m.length y = 101 := if_pos (.inl h1)
    repeat' (first | (simp (disch := omega) only [push_cast, ↓reduceIte, zA, zG, zB, zH, zI, zC, zJ, zK, zL, zD, zE, zF, zM, zN, zO, zP, zQ, reduceCtorEq, not_true_eq_false, not_false_eq_true, f0, f1, b0, b1, b2, addr_add_eq, Nat.zero_add]) | (first | refine vIfE_of ?_ ?_ | refine vIfD_of ?_ ?_ | refine vIfQ_of ?_ ?_ | refine vIfV_of ?_ ?_) <;> intro _ | refine And.intro (by omega) ?_ | refine drawn_q ?_ | fail)
    all_goals first | exact ⟨by rw [e], l2⟩ | exact l2
  by_cases h2 : y.k.length = m.length
  case neg =>
    have e : evErr d.length m.length y = 101 := if_pos (.inr h2)
    repeat' (first | (simp (disch := omega) only [push_cast, ↓reduceIte, zA, zG, zB, zH, zI, zC, zJ, zK, zL, zD, zE, zF, zM, zN, zO, zP, zQ, reduceCtorEq, not_true_eq_false, not_false_eq_true, f0, f1, b0, b1, b2, addr_add_eq, Nat.zero_add]) | (first | refine vIfE_of ?_ ?_ | refine vIfD_of ?_ ?_ | refine vIfQ_of ?_ ?_ | refine vIfV_of ?_ ?_) <;> intro _ | refine And.intro (by omega) ?_ | refine drawn_q ?_ | fail)
    all_goals first | exact ⟨by rw [e], l2⟩ | exact l2
  have e0 : evErr d.length m.length y = if (¬ ∀ s ∈ y.d, VlOk s) ∨ (¬ ∀ n ∈ y.k, Fi n) then 102 else if y.t < 0 ∨ 1099511627776 < y.t then 181 else 0 := if_neg (by omega)
  repeat' (first | (simp (disch := omega) only [push_cast, ↓reduceIte, zA, zG, zB, zH, zI, zC, zJ, zK, zL, zD, zE, zF, zM, zN, zO, zP, zQ, reduceCtorEq, not_true_eq_false, not_false_eq_true, f0, f1, b0, b1, b2, addr_add_eq, Nat.zero_add]) | (first | refine vIfE_of ?_ ?_ | refine vIfD_of ?_ ?_ | refine vIfQ_of ?_ ?_ | refine vIfV_of ?_ ?_) <;> intro _ | refine And.intro (by omega) ?_ | refine drawn_q ?_ | fail)
  refine vc_loop W57_0 (fun i : Nat => [(4, .int .i64 0), (5, .int .i64 (i : Int))])
    (fun i w' => i ≤ y.d.length ∧ Later w2 w' ∧ (∀ j (h : j < y.d.length), j < i → VlOk y.d[j])) (fun i => y.d.length - i) 0 (by decide) ?_ ?_ ?_
  · simp (disch := omega) only [push_cast, ↓reduceIte, zA, zG, zB, zH, zI, zC, zJ, zK, zL, zD, zE, zF, zM, zN, zO, zP, zQ, reduceCtorEq, not_true_eq_false, not_false_eq_true]
  · exact ⟨by omega, Later.refl _, fun j _ hj => absurd hj (Nat.not_lt_zero _)⟩
  rintro i uu w3 ⟨hi, l3, hA⟩
  have l03 := l2.trans l3
  obtain ⟨f0, f1, b0, b1, b2⟩ := F' w3 l3
  by_cases hlt : i < y.d.length
  · cases oy with
    | none => have := (Sl.len hyd).2.2.2 rfl; simp at this; rw [this.1] at hlt; simp at hlt
    | some ad =>
    have hc := StS.atS (Sl.later hyd l03) hlt
    repeat' (first | (simp (disch := omega) only [push_cast, ↓reduceIte, zA, zG, zB, zH, zI, zC, zJ, zK, zL, zD, zE, zF, zM, zN, zO, zP, zQ, reduceCtorEq, not_true_eq_false, not_false_eq_true, b1, hc, addr_add_eq, Nat.zero_add]) | (first | refine vIfE_of ?_ ?_ | refine vIfD_of ?_ ?_ | refine vIfQ_of ?_ ?_ | refine vIfV_of ?_ ?_) <;> intro _ | refine And.intro (by omega) ?_ | refine drawn_q ?_ | fail)
    refine (dvalue_c y.d[i] w3 (hz _ (List.getElem_mem _))).mono ?_
    rintro _ w0 ⟨rfl, h0⟩
    obtain rfl := h0.symm
    by_cases hv : VlOk y.d[i]
    · rw [decide_eq_true hv]
      repeat' (first | (simp (disch := omega) only [push_cast, ↓reduceIte, zA, zG, zB, zH, zI, zC, zJ, zK, zL, zD, zE, zF, zM, zN, zO, zP, zQ, reduceCtorEq, not_true_eq_false, not_false_eq_true]) | (first | refine vIfE_of ?_ ?_ | refine vIfD_of ?_ ?_ | refine vIfQ_of ?_ ?_ | refine vIfV_of ?_ ?_) <;> intro _ | refine And.intro (by omega) ?_ | refine drawn_q ?_ | fail)
      refine ⟨rfl, i + 1, by simp (disch := omega) only [push_cast, ↓reduceIte, zA, zG, zB, zH, zI, zC, zJ, zK, zL, zD, zE, zF, zM, zN, zO, zP, zQ, reduceCtorEq, not_true_eq_false, not_false_eq_true], ⟨by omega, l3, fun j hj hji => ?_⟩, by dsimp only; omega⟩
      by_cases h : j < i
      · exact hA j hj h
      · have : j = i := by omega
        subst this
        exact hv
    · have e : evErr d.length m.length y = 102 := e0.trans (if_pos (.inl fun h => hv (h _ (List.getElem_mem _))))
      rw [decide_eq_false hv]
      repeat' (first | (simp (disch := omega) only [push_cast, ↓reduceIte, zA, zG, zB, zH, zI, zC, zJ, zK, zL, zD, zE, zF, zM, zN, zO, zP, zQ, reduceCtorEq, not_true_eq_false, not_false_eq_true]) | (first | refine vIfE_of ?_ ?_ | refine vIfD_of ?_ ?_ | refine vIfQ_of ?_ ?_ | refine vIfV_of ?_ ?_) <;> intro _ | refine And.intro (by omega) ?_ | refine drawn_q ?_ | fail)
      first | exact ⟨by rw [e], l03⟩ | exact l03
  have hvs : ∀ s ∈ y.d, VlOk s := fun s hs => by
    obtain ⟨j, hj, rfl⟩ := List.getElem_of_mem hs
    exact hA j hj (by omega)
  repeat' (first | (simp (disch := omega) only [push_cast, ↓reduceIte, zA, zG, zB, zH, zI, zC, zJ, zK, zL, zD, zE, zF, zM, zN, zO, zP, zQ, reduceCtorEq, not_true_eq_false, not_false_eq_true, b1, addr_add_eq, Nat.zero_add]) | (first | refine vIfE_of ?_ ?_ | refine vIfD_of ?_ ?_ | refine vIfQ_of ?_ ?_ | refine vIfV_of ?_ ?_) <;> intro _ | refine And.intro (by omega) ?_ | refine drawn_q ?_ | fail)
  refine vc_loop W57_1 (fun i : Nat => [(4, .int .i64 0), (7, .int .i64 (i : Int))])
    (fun i w' => i ≤ y.k.length ∧ Later w2 w' ∧ (∀ j (h : j < y.k.length), j < i → Fi y.k[j])) (fun i => y.k.length - i) 0 (by decide) ?_ ?_ ?_
  · simp (disch := omega) only [push_cast, ↓reduceIte, zA, zG, zB, zH, zI, zC, zJ, zK, zL, zD, zE, zF, zM, zN, zO, zP, zQ, reduceCtorEq, not_true_eq_false, not_false_eq_true]
  · exact ⟨by omega, l3, fun j _ hj => absurd hj (Nat.not_lt_zero _)⟩
  rintro i uu2 w4 ⟨hi, l4, hB⟩
  have l04 := l2.trans l4
  obtain ⟨f0, f1, b0, b1, b2⟩ := F' w4 l4
  by_cases hlt : i < y.k.length
  · obtain ⟨ad, rfl⟩ := hyk.some hlt
    have hc := (hyk.later l04).atI hlt
    by_cases hv : Fi y.k[i]
    · have hvv := hv
      obtain ⟨v1, v2⟩ := hvv
      repeat' (first | (simp (disch := omega) only [push_cast, ↓reduceIte, zA, zG, zB, zH, zI, zC, zJ, zK, zL, zD, zE, zF, zM, zN, zO, zP, zQ, reduceCtorEq, not_true_eq_false, not_false_eq_true, b2, hc, addr_add_eq, Nat.zero_add]) | (first | refine vIfE_of ?_ ?_ | refine vIfD_of ?_ ?_ | refine vIfQ_of ?_ ?_ | refine vIfV_of ?_ ?_) <;> intro _ | refine And.intro (by omega) ?_ | refine drawn_q ?_ | fail)
      refine ⟨rfl, i + 1, by simp (disch := omega) only [push_cast, ↓reduceIte, zA, zG, zB, zH, zI, zC, zJ, zK, zL, zD, zE, zF, zM, zN, zO, zP, zQ, reduceCtorEq, not_true_eq_false, not_false_eq_true], ⟨by omega, l4, fun j hj hji => ?_⟩, by dsimp only; omega⟩
      by_cases h : j < i
      · exact hB j hj h
      · have : j = i := by omega
        subst this
        exact hv
    · have e : evErr d.length m.length y = 102 := e0.trans (if_pos (.inr fun h => hv (h _ (List.getElem_mem _))))
      have hv' : y.k[i] < -4611686018427387904 ∨ 4611686018427387904 < y.k[i] := by
        by_cases h : y.k[i] < -4611686018427387904
        · exact .inl h
        · right
          apply Classical.byContradiction
          intro h'
          exact hv ⟨by omega, by omega⟩
      repeat' (first | (simp (disch := omega) only [push_cast, ↓reduceIte, zA, zG, zB, zH, zI, zC, zJ, zK, zL, zD, zE, zF, zM, zN, zO, zP, zQ, reduceCtorEq, not_true_eq_false, not_false_eq_true, b2, hc, addr_add_eq, Nat.zero_add]) | (first | refine vIfE_of ?_ ?_ | refine vIfD_of ?_ ?_ | refine vIfQ_of ?_ ?_ | refine vIfV_of ?_ ?_) <;> intro _ | refine And.intro (by omega) ?_ | refine drawn_q ?_ | fail)
      all_goals first | (exfalso; omega) | skip
      all_goals first | exact ⟨by rw [e], l04⟩ | exact l04
  have has : ∀ a ∈ y.k, Fi a := fun s hs => by
    obtain ⟨j, hj, rfl⟩ := List.getElem_of_mem hs
    exact hB j hj (by omega)
  have e1 : evErr d.length m.length y = if y.t < 0 ∨ 1099511627776 < y.t then 181 else 0 := e0.trans (if_neg (fun h => h.elim (fun h => h hvs) (fun h => h has)))
  by_cases ht : y.t < 0 ∨ 1099511627776 < y.t
  · have e : evErr d.length m.length y = 181 := e1.trans (if_pos ht)
    repeat' (first | (simp (disch := omega) only [push_cast, ↓reduceIte, zA, zG, zB, zH, zI, zC, zJ, zK, zL, zD, zE, zF, zM, zN, zO, zP, zQ, reduceCtorEq, not_true_eq_false, not_false_eq_true, b0, b2, addr_add_eq, Nat.zero_add]) | (first | refine vIfE_of ?_ ?_ | refine vIfD_of ?_ ?_ | refine vIfQ_of ?_ ?_ | refine vIfV_of ?_ ?_) <;> intro _ | refine And.intro (by omega) ?_ | refine drawn_q ?_ | fail)
    all_goals first | (exfalso; omega) | skip
    all_goals first | exact ⟨by rw [e], l04⟩ | exact l04
  · have e : evErr d.length m.length y = 0 := e1.trans (if_neg ht)
    repeat' (first | (simp (disch := omega) only [push_cast, ↓reduceIte, zA, zG, zB, zH, zI, zC, zJ, zK, zL, zD, zE, zF, zM, zN, zO, zP, zQ, reduceCtorEq, not_true_eq_false, not_false_eq_true, b0, b2, addr_add_eq, Nat.zero_add]) | (first | refine vIfE_of ?_ ?_ | refine vIfD_of ?_ ?_ | refine vIfQ_of ?_ ?_ | refine vIfV_of ?_ ?_) <;> intro _ | refine And.intro (by omega) ?_ | refine drawn_q ?_ | fail)
    all_goals first | (exfalso; omega) | skip
    all_goals first | exact ⟨by rw [e], l04⟩ | exact l04
end Go.Proofs.Ythihbgpaoldbjaa
end
section
namespace Go.Proofs.Ythihbgpaoldbjaa
open Go.Vc Go.Key Go.RowKit Go.ChangeShapes
set_option maxRecDepth 100000
section
variable {H : Type} {enc : TypeId × Value → H} {w : World} {sp : Nat → Bool} {hd : Bool}
abbrev I64 (n : Int) : Prop := -9223372036854775808 ≤ n ∧ n ≤ 9223372036854775807
theorem o_int : Opens enc Try.prog w sp hd 3 1 (fun cs => ∃ n : Int, cs = [.int .i64 n] ∧ I64 n) := opens_i64 Try.underlying3 (by kernel_rfl)
theorem o_str : Opens enc Try.prog w sp hd 9 1 (fun cs => ∃ s : ByteArray, cs = [.string s] ∧ s.size ≤ 9223372036854775807) := opens_string Try.underlying9 (by kernel_rfl)
theorem o_strs : Opens enc Try.prog w sp hd 22 1 (fun cs => ∃ v l, cs = [v] ∧ StS w v l ∧ StZ l) :=
  (opens_slice (en := fun s => [Value.string s]) (Q := fun s => s.size ≤ 9223372036854775807) Try.underlying22 (by kernel_rfl) o_str).mono fun _ ⟨v, l, h1, h2, h3⟩ => ⟨v, l, h1, sl_of_rec h2, h3⟩
theorem o_ints : Opens enc Try.prog w sp hd 47 1 (fun cs => ∃ (v : Value) (l : List Int), cs = [v] ∧ Sl w v (l.map i64v) ∧ ∀ n ∈ l, I64 n) :=
  (opens_slice (en := fun n => [i64v n]) (Q := I64) Try.underlying47 (by kernel_rfl) o_int).mono fun _ ⟨v, l, h1, h2, h3⟩ => ⟨v, l, h1, sl_of_rec h2, h3⟩
theorem o_agg : Opens enc Try.prog w sp hd 64 3 (fun cs => ∃ a : Ag, cs = agC a ∧ I64 a.1 ∧ I64 a.2.1 ∧ I64 a.2.2) :=
  (opens_struct Try.underlying64 (by kernel_rfl)).mono fun cs ⟨hl, hf⟩ => by
    match cs, hl with
    | [c0, c1, c2], _ =>
      obtain ⟨a, ha, wa⟩ := hf 0 _ 1 _ rfl o_int
      obtain ⟨b, hb, wb⟩ := hf 1 _ 1 _ rfl o_int
      obtain ⟨c, hc, wc⟩ := hf 2 _ 1 _ rfl o_int
      obtain rfl : c0 = _ := (List.cons.inj ha).1
      obtain rfl : c1 = _ := (List.cons.inj hb).1
      obtain rfl : c2 = _ := (List.cons.inj hc).1
      exact ⟨(a, b, c), rfl, wa, wb, wc⟩
theorem o_aggs : Opens enc Try.prog w sp hd 33 1 (fun cs => ∃ v l, cs = [v] ∧ AgS w v l) :=
  (opens_slice (en := agC) Try.underlying33 (by kernel_rfl) o_agg).mono fun _ ⟨v, l, h1, h2, _⟩ => ⟨v, l, h1, h2⟩
/-- A row that came in. -/
structure ElQ (w : World) (e : El) : Prop where
  is : EIs w e
  z : StZ e.d
  t : I64 e.t
  n : I64 e.n
theorem o_row : Opens enc Try.prog w sp hd 35 4 (fun cs => ∃ e : El, cs = elC e ∧ ElQ w e) :=
  (opens_struct Try.underlying35 (by kernel_rfl)).mono fun cs ⟨hl, hf⟩ => by
    match cs, hl with
    | [c0, c1, c2, c3], _ =>
      obtain ⟨t, ht, wt⟩ := hf 0 _ 1 _ rfl o_int
      obtain ⟨dv, d, hd, sd, zd⟩ := hf 1 _ 1 _ rfl o_strs
      obtain ⟨n, hn, wn⟩ := hf 2 _ 1 _ rfl o_int
      obtain ⟨av, a, ha, sa⟩ := hf 3 _ 1 _ rfl o_aggs
      obtain rfl : c0 = _ := (List.cons.inj ht).1
      obtain rfl : c1 = _ := (List.cons.inj hd).1
      obtain rfl : c2 = _ := (List.cons.inj hn).1
      obtain rfl : c3 = _ := (List.cons.inj ha).1
      exact ⟨⟨t, d, n, a, c1, c3⟩, rfl, ⟨sd, sa⟩, zd, wt, wn⟩
theorem o_schema : Opens enc Try.prog w sp hd 24 2 (fun cs => ∃ dv mv d m, cs = [dv, mv] ∧ ScIs w dv mv d m) :=
  (opens_struct Try.underlying24 (by kernel_rfl)).mono fun cs ⟨hl, hf⟩ => by
    match cs, hl with
    | [c0, c1], _ =>
      obtain ⟨dv, d, hd, sd, zd⟩ := hf 0 _ 1 _ rfl o_strs
      obtain ⟨mv, m, hm, sm, zm⟩ := hf 1 _ 1 _ rfl o_strs
      obtain rfl : c0 = _ := (List.cons.inj hd).1
      obtain rfl : c1 = _ := (List.cons.inj hm).1
      exact ⟨c0, c1, d, m, rfl, sd, sm, zd, zm⟩
theorem o_event : Opens enc Try.prog w sp hd 49 3 (fun cs => ∃ e : Ev, cs = [.int .i64 e.t, e.dv, e.kv] ∧ EvIs w e ∧ StZ e.d) :=
  (opens_struct Try.underlying49 (by kernel_rfl)).mono fun cs ⟨hl, hf⟩ => by
    match cs, hl with
    | [c0, c1, c2], _ =>
      obtain ⟨t, ht, wt⟩ := hf 0 _ 1 _ rfl o_int
      obtain ⟨dv, d, hd, sd, zd⟩ := hf 1 _ 1 _ rfl o_strs
      obtain ⟨kv, k, hk, sk, zk⟩ := hf 2 _ 1 _ rfl o_ints
      obtain rfl : c0 = _ := (List.cons.inj ht).1
      obtain rfl : c1 = _ := (List.cons.inj hd).1
      obtain rfl : c2 = _ := (List.cons.inj hk).1
      exact ⟨⟨t, d, k, c1, c2⟩, rfl, ⟨sd, sk⟩, zd⟩
variable {v : Value} {d : DataW H} {ps : List MemPlace} {r : Reach} {b0 : Nat}
theorem open_schema (hval : Value.okWide Try.prog w r b0 24 v) (h : DataW.Trod enc Try.prog w 0 sp hd 24 v d ps) : ∃ a : Value × Value × List ByteArray × List ByteArray, v = scV a.1 a.2.1 ∧ ScIs w a.1 a.2.1 a.2.2.1 a.2.2.2 := by
  obtain ⟨cs, rfl, dv, mv, d, m, rfl, hs⟩ := open_agg (.inl ⟨_, Try.underlying24⟩) o_schema hval h
  exact ⟨(dv, mv, d, m), rfl, hs⟩
theorem open_row (hval : Value.okWide Try.prog w r b0 35 v) (h : DataW.Trod enc Try.prog w 0 sp hd 35 v d ps) : ∃ e : El, v = elV e ∧ ElQ w e := by
  obtain ⟨cs, rfl, e, rfl, hs⟩ := open_agg (.inl ⟨_, Try.underlying35⟩) o_row hval h
  exact ⟨e, rfl, hs⟩
theorem open_event (hval : Value.okWide Try.prog w r b0 49 v) (h : DataW.Trod enc Try.prog w 0 sp hd 49 v d ps) : ∃ e : Ev, v = evV e ∧ EvIs w e ∧ StZ e.d := by
  obtain ⟨cs, rfl, e, rfl, hs⟩ := open_agg (.inl ⟨_, Try.underlying49⟩) o_event hval h
  exact ⟨e, rfl, hs⟩
end
end Go.Proofs.Ythihbgpaoldbjaa
end
