/- Contracts: what numbers come to (agg, and the document's). -/
import Derived.Test.YthihbgpaoldbjaaPartE
set_option linter.all false
open Nat renaming reduceEqDiff → zA, reducePow → zB, reduceMul → zC, reduceAdd → zD, reduceSub → zE, reduceLeDiff → zF
open Int renaming reduceToNat → zG, reducePow → zH, reduceNeg → zI, reduceMul → zJ, reduceAdd → zK, reduceSub → zL, reduceLT → zM, reduceLE → zN, reduceEq → zO, reduceMod → zP, reduceDiv → zQ
section
set_option linter.unusedSimpArgs false
namespace Go.Vc
open Go.RowKit
/-- A result that lies in cells. -/
theorem resK_cells {P : Program} {R : Value → World → Prop} {σ : Env} {w : World} {a s : Nat} {t : TypeId} {rs : List ResultVar} {acc l : List Value} {ad : Addr} (ha : σ a = .pointer (some ad)) (hA : aggD P t (P.underlying t) = some s) (hl : cellsAt w ad s = some l)
    (hR : resK P rs (acc ++ [.agg l.toArray]) σ R w) : resK P (.cell a t :: rs) acc σ R w := by
  unfold resK
  rw [ha]
  obtain ⟨h1, h2⟩ := run_isAgg_yes hA w
  exact ⟨.agg l.toArray, by simp [loadVar, h1, run_sizeOf h2, run_loadCells' hl], hR⟩
theorem box3 (w : World) (a b c : Value) (e : TypeId) : (w.alloc (.cells #[a, b, c] e)).cell? ⟨w.heap.size, 0, none⟩ = some a ∧ (w.alloc (.cells #[a, b, c] e)).cell? ⟨w.heap.size, 1, none⟩ = some b ∧ (w.alloc (.cells #[a, b, c] e)).cell? ⟨w.heap.size, 2, none⟩ = some c ∧ cellsAt (w.alloc (.cells #[a, b, c] e)) ⟨w.heap.size, 0, none⟩ 3 = some [a, b, c] :=
  ⟨(Blk.new w #[a, b, c] e).cell 0, (Blk.new w #[a, b, c] e).cell 1, (Blk.new w #[a, b, c] e).cell 2, Blk.cellsAt (l := [a, b, c]) (Blk.new w #[a, b, c] e)⟩
/-- Three whole numbers in a struct, held against others. -/
theorem run_triple {P : Program} {t : TypeId} {f0 f1 f2 : Field} (ht : P.underlying t = some (.struct #[f0, f1, f2])) (h0 : P.underlying f0.type = some (.int .i64)) (h1 : P.underlying f1.type = some (.int .i64)) (h2 : P.underlying f2.type = some (.int .i64)) (o0 : f0.offset = 0) (o1 : f1.offset = 1) (o2 : f2.offset = 2)
    (n0 : f0.name ≠ "_") (n1 : f1.name ≠ "_") (n2 : f2.name ≠ "_") (hp : P.stoodInHeld t = false) (hm : P.eqGuardType P.depth t = false) (x y : Operand) (a b c d e f : Int) (w : World) :
    (do eqGuard .neq t x y (.agg #[.int .i64 a, .int .i64 b, .int .i64 c]) (.agg #[.int .i64 d, .int .i64 e, .int .i64 f]); binOp .neq t (.agg #[.int .i64 a, .int .i64 b, .int .i64 c]) (.agg #[.int .i64 d, .int .i64 e, .int .i64 f])).run P w = .ok (.bool (!decide ((a, b, c) = (d, e, f)))) w := by
  have hf : P.fieldsOf t = #[f0, f1, f2] := by unfold Program.fieldsOf; rw [ht]
  have hs : P.underlying t = some (.struct (P.fieldsOf t)) := by rw [hf]; exact ht
  have hd : (decide ((a, b, c) = (d, e, f))) = (a == d && (b == e && c == f)) := by
    rw [Bool.eq_iff_iff]; simp
  rw [hd]
  simp only [Sem.run_bind, run_eqGuard_agg w .neq t x y _ _ hm, Result.andThen_ok, run_neq_struct, run_equalIn_agg w 9999 t _ _ hs hp, hf]
  have i0 : ∀ w' : World, (isAgg f0.type).run P w' = .ok false w' := run_isAgg (by rw [h0]; rfl)
  have i1 : ∀ w' : World, (isAgg f1.type).run P w' = .ok false w' := run_isAgg (by rw [h1]; rfl)
  have i2 : ∀ w' : World, (isAgg f2.type).run P w' = .ok false w' := run_isAgg (by rw [h2]; rfl)
  by_cases e1 : a = d <;> by_cases e2 : b = e <;> by_cases e3 : c = f <;> simp [Op.eqFields, n0, n1, n2, part, i0, i1, i2, o0, o1, o2, run_equalIn_int _ _ _ _ _ _ _ h0, run_equalIn_int _ _ _ _ _ _ _ h1, run_equalIn_int _ _ _ _ _ _ _ h2, e1, e2, e3]
end Go.Vc
namespace Go.Proofs.Ythihbgpaoldbjaa
open Go.Vc
set_option maxRecDepth 100000
abbrev Ag := Int × Int × Int
def agC (a : Ag) : List Value := [.int .i64 a.1, .int .i64 a.2.1, .int .i64 a.2.2]
def agV (a : Ag) : Value := .agg #[.int .i64 a.1, .int .i64 a.2.1, .int .i64 a.2.2]
theorem agC_len (a : Ag) : (agC a).length = 3 := rfl
theorem agC_one (a : Ag) : ∀ u ∈ agC a, u.oneCell' = true := by
  intro u hu
  simp only [agC, List.mem_cons, List.not_mem_nil, or_false] at hu
  rcases hu with rfl | rfl | rfl <;> rfl
abbrev AgS (w : World) (v : Value) (l : List Ag) : Prop := RecS agC 3 w v l
abbrev OwnA (w : World) (B : Nat) (v : Value) (l : List Ag) : Prop := OwnR agC 3 w B 64 v l
abbrev Fi (n : Int) : Prop := -4611686018427387904 ≤ n ∧ n ≤ 4611686018427387904
abbrev ARt (a : Ag) : Prop := Fi a.1 ∧ Fi a.2.1 ∧ Fi a.2.2 ∧ a.2.1 ≤ a.2.2
def ajn (a b : Ag) : Ag := (a.1 + b.1, min a.2.1 b.2.1, max a.2.2 b.2.2)
theorem ajn_rt {a b : Ag} (ha : ARt a) (hb : ARt b) (h : Fi (a.1 + b.1)) : ARt (ajn a b) := by
  unfold ARt Fi ajn at *
  dsimp only
  omega
/-- What either Join answers. -/
def jnV (a b : Ag) : Value := if Fi (a.1 + b.1) then .tuple #[agV (ajn a b), .int .i64 0] else .tuple #[agV (0, 0, 0), .int .i64 121]
def fitb (n : Int) : Bool := decide (Fi n)
theorem afits_c (v : Value) (l : List Int) (w : World) (h : Sl w v (l.map i64v)) : FnC Try.prog 91 #[v] w fun r w' => r = .bool (l.all fitb) ∧ Later w w' := by
  obtain ⟨o, c, rfl, g1, g2, h, g3⟩ := h.openM
  refine enter91 _ ?_
  unfold B91
  repeat' (first | (simp (disch := omega) only [push_cast, ↓reduceIte, zA, zG, zB, zH, zI, zC, zJ, zK, zL, zD, zE, zF, zM, zN, zO, zP, zQ, reduceCtorEq, not_true_eq_false, not_false_eq_true]) | (first | refine vIfE_of ?_ ?_ | refine vIfD_of ?_ ?_ | refine vIfQ_of ?_ ?_ | refine vIfV_of ?_ ?_) <;> intro _ | refine And.intro (by omega) ?_ | refine drawn_q ?_ | fail)
  refine vc_loop W91_0 (fun i : Nat => [(2, .bool false), (7, .int .i64 (i : Int))]) (fun i w' => i ≤ l.length ∧ Later w w' ∧ (l.take i).all fitb = true) (fun i => l.length - i) 0 (by decide) ?_ ?_ ?_
  · simp (disch := omega) only [push_cast, ↓reduceIte, zA, zG, zB, zH, zI, zC, zJ, zK, zL, zD, zE, zF, zM, zN, zO, zP, zQ, reduceCtorEq, not_true_eq_false, not_false_eq_true]
  · exact ⟨by omega, Later.refl _, by simp⟩
  rintro i uu w1 ⟨hi, hl1, hall⟩
  by_cases hlt : i < l.length
  · obtain ⟨a, rfl⟩ := h.some hlt
    have c0 := (h.later hl1).atI hlt
    have hmem : l[i] ∈ l := List.getElem_mem _
    by_cases hf : Fi l[i]
    · have hsn : (l.take (i + 1)).all fitb = true := by rw [take_snoc l i hlt, List.all_append, hall, Bool.true_and]; simp only [List.all_cons, List.all_nil, Bool.and_true, fitb]; exact decide_eq_true hf
      generalize l[i] = x at *
      repeat' (first | (simp (disch := omega) only [push_cast, ↓reduceIte, zA, zG, zB, zH, zI, zC, zJ, zK, zL, zD, zE, zF, zM, zN, zO, zP, zQ, reduceCtorEq, not_true_eq_false, not_false_eq_true, c0]) | (first | refine vIfE_of ?_ ?_ | refine vIfD_of ?_ ?_ | refine vIfQ_of ?_ ?_ | refine vIfV_of ?_ ?_) <;> intro _ | refine And.intro (by omega) ?_ | refine drawn_q ?_ | fail)
      exact ⟨rfl, i + 1, by simp (disch := omega) only [push_cast, ↓reduceIte, zA, zG, zB, zH, zI, zC, zJ, zK, zL, zD, zE, zF, zM, zN, zO, zP, zQ, reduceCtorEq, not_true_eq_false, not_false_eq_true], ⟨by omega, hl1, hsn⟩, by dsimp only; omega⟩
    · have hno : l.all fitb = false := by
        rw [List.all_eq_false]
        exact ⟨_, hmem, by simp only [fitb, decide_eq_true_eq]; exact hf⟩
      generalize l[i] = x at *
      by_cases h1 : x < -4611686018427387904
      · repeat' (first | (simp (disch := omega) only [push_cast, ↓reduceIte, zA, zG, zB, zH, zI, zC, zJ, zK, zL, zD, zE, zF, zM, zN, zO, zP, zQ, reduceCtorEq, not_true_eq_false, not_false_eq_true, c0]) | (first | refine vIfE_of ?_ ?_ | refine vIfD_of ?_ ?_ | refine vIfQ_of ?_ ?_ | refine vIfV_of ?_ ?_) <;> intro _ | refine And.intro (by omega) ?_ | refine drawn_q ?_ | fail)
        simp [hno, hl1]
      · repeat' (first | (simp (disch := omega) only [push_cast, ↓reduceIte, zA, zG, zB, zH, zI, zC, zJ, zK, zL, zD, zE, zF, zM, zN, zO, zP, zQ, reduceCtorEq, not_true_eq_false, not_false_eq_true, c0]) | (first | refine vIfE_of ?_ ?_ | refine vIfD_of ?_ ?_ | refine vIfQ_of ?_ ?_ | refine vIfV_of ?_ ?_) <;> intro _ | refine And.intro (by omega) ?_ | refine drawn_q ?_ | fail)
        simp [hno, hl1]
  · have e : i = l.length := by omega
    subst e
    rw [List.take_length] at hall
    repeat' (first | (simp (disch := omega) only [push_cast, ↓reduceIte, zA, zG, zB, zH, zI, zC, zJ, zK, zL, zD, zE, zF, zM, zN, zO, zP, zQ, reduceCtorEq, not_true_eq_false, not_false_eq_true]) | (first | refine vIfE_of ?_ ?_ | refine vIfD_of ?_ ?_ | refine vIfQ_of ?_ ?_ | refine vIfV_of ?_ ?_) <;> intro _ | refine And.intro (by omega) ?_ | refine drawn_q ?_ | fail)
    simp [hall, hl1]
theorem cfits_c (n : Int) (w : World) : FnC Try.prog 92 #[.int .i64 n] w fun r w' => r = .bool (decide (Fi n)) ∧ Later w w' := by
  refine enter92 _ ?_
  unfold B92
  have := Later.refl w
  by_cases h1 : -4611686018427387904 ≤ n <;> by_cases h2 : n ≤ 4611686018427387904
  all_goals
    repeat' (first | (simp (disch := omega) only [push_cast, ↓reduceIte, zA, zG, zB, zH, zI, zC, zJ, zK, zL, zD, zE, zF, zM, zN, zO, zP, zQ, reduceCtorEq, not_true_eq_false, not_false_eq_true]) | (first | refine vIfE_of ?_ ?_ | refine vIfD_of ?_ ?_ | refine vIfQ_of ?_ ?_ | refine vIfV_of ?_ ?_) <;> intro _ | refine And.intro (by omega) ?_ | refine drawn_q ?_ | fail)
    all_goals simp [h1, h2, this]
theorem aright_c (a : Ag) (w : World) : FnC Try.prog 64 #[agV a] w fun r w' => r = .bool (decide (ARt a)) ∧ Later w w' := by
  unfold agV
  refine enter64 _ ?_
  unfold B64
  have ec : (Value.agg #[.int .i64 a.1, .int .i64 a.2.1, .int .i64 a.2.2]).cells = #[.int .i64 a.1, .int .i64 a.2.1, .int .i64 a.2.2] := rfl
  obtain ⟨c0, c1, c2, _⟩ := box3 w (.int .i64 a.1) (.int .i64 a.2.1) (.int .i64 a.2.2) 64
  have la := later_alloc w (.cells #[.int .i64 a.1, .int .i64 a.2.1, .int .i64 a.2.2] 64)
  repeat' (first | (simp (disch := omega) only [push_cast, ↓reduceIte, zA, zG, zB, zH, zI, zC, zJ, zK, zL, zD, zE, zF, zM, zN, zO, zP, zQ, reduceCtorEq, not_true_eq_false, not_false_eq_true, ec, c0, c1, c2, addr_add_eq, Nat.zero_add]) | (first | refine vIfE_of ?_ ?_ | refine vIfD_of ?_ ?_ | refine vIfQ_of ?_ ?_ | refine vIfV_of ?_ ?_) <;> intro _ | refine And.intro (by omega) ?_ | refine drawn_q ?_ | fail)
  generalize hw1 : w.alloc (.cells #[.int .i64 a.1, .int .i64 a.2.1, .int .i64 a.2.2] 64) = w1 at *
  generalize w.heap.size = k at *
  have lb := later_alloc w1 (.cells #[.int .i64 a.1, .int .i64 a.2.1, .int .i64 a.2.2] 3)
  have hsl : Sl (w1.alloc (.cells #[.int .i64 a.1, .int .i64 a.2.1, .int .i64 a.2.2] 3)) (.slice (some ⟨w1.heap.size, 0, none⟩) 3 3) (([a.1, a.2.1, a.2.2] : List Int).map i64v) :=
    Sl.of_blk (xs := [.int .i64 a.1, .int .i64 a.2.1, .int .i64 a.2.2]) (Blk.new w1 _ _) rfl (by unfold maxLen; omega)
  refine (afits_c _ _ _ hsl).mono ?_
  rintro _ w2 ⟨rfl, l2⟩
  have d1 := (lb.trans l2).cell c1
  have d2 := (lb.trans l2).cell c2
  have l02 := la.trans (lb.trans l2)
  have hv : (([a.1, a.2.1, a.2.2] : List Int).all fitb) = (decide (Fi a.1) && (decide (Fi a.2.1) && decide (Fi a.2.2))) := by simp [fitb]
  rw [hv]
  by_cases h1 : Fi a.1 ∧ Fi a.2.1 ∧ Fi a.2.2
  · obtain ⟨h1, h2, h3⟩ := h1
    rw [decide_eq_true h1, decide_eq_true h2, decide_eq_true h3, Bool.and_self, Bool.and_self]
    by_cases h4 : a.2.1 ≤ a.2.2
    · repeat' (first | (simp (disch := omega) only [push_cast, ↓reduceIte, zA, zG, zB, zH, zI, zC, zJ, zK, zL, zD, zE, zF, zM, zN, zO, zP, zQ, reduceCtorEq, not_true_eq_false, not_false_eq_true, d1, d2, addr_add_eq, Nat.zero_add]) | (first | refine vIfE_of ?_ ?_ | refine vIfD_of ?_ ?_ | refine vIfQ_of ?_ ?_ | refine vIfV_of ?_ ?_) <;> intro _ | refine And.intro (by omega) ?_ | refine drawn_q ?_ | fail)
      rw [decide_eq_true (show ARt a from ⟨h1, h2, h3, h4⟩), decide_eq_true h4]
      first | exact ⟨rfl, l02⟩ | exact l02
    · repeat' (first | (simp (disch := omega) only [push_cast, ↓reduceIte, zA, zG, zB, zH, zI, zC, zJ, zK, zL, zD, zE, zF, zM, zN, zO, zP, zQ, reduceCtorEq, not_true_eq_false, not_false_eq_true, d1, d2, addr_add_eq, Nat.zero_add]) | (first | refine vIfE_of ?_ ?_ | refine vIfD_of ?_ ?_ | refine vIfQ_of ?_ ?_ | refine vIfV_of ?_ ?_) <;> intro _ | refine And.intro (by omega) ?_ | refine drawn_q ?_ | fail)
      rw [decide_eq_false (show ¬ ARt a from fun h => h4 h.2.2.2), decide_eq_false h4]
      first | exact ⟨rfl, l02⟩ | exact l02
  · have : (decide (Fi a.1) && (decide (Fi a.2.1) && decide (Fi a.2.2))) = false := by
      rw [Bool.eq_false_iff]
      intro hh
      simp only [Bool.and_eq_true, decide_eq_true_eq] at hh
      exact h1 hh
    rw [this]
    have hno : ¬ ARt a := fun hh => h1 ⟨hh.1, hh.2.1, hh.2.2.1⟩
    repeat' (first | (simp (disch := omega) only [push_cast, ↓reduceIte, zA, zG, zB, zH, zI, zC, zJ, zK, zL, zD, zE, zF, zM, zN, zO, zP, zQ, reduceCtorEq, not_true_eq_false, not_false_eq_true, d1, d2, addr_add_eq, Nat.zero_add]) | (first | refine vIfE_of ?_ ?_ | refine vIfD_of ?_ ?_ | refine vIfQ_of ?_ ?_ | refine vIfV_of ?_ ?_) <;> intro _ | refine And.intro (by omega) ?_ | refine drawn_q ?_ | fail)
    simp [hno, l02]
theorem caright_c (a : Ag) (w : World) : FnC Try.prog 66 #[agV a] w fun r w' => r = .bool (decide (ARt a)) ∧ Later w w' := by
  unfold agV
  refine enter66 _ ?_
  unfold B66
  have ec : (Value.agg #[.int .i64 a.1, .int .i64 a.2.1, .int .i64 a.2.2]).cells = #[.int .i64 a.1, .int .i64 a.2.1, .int .i64 a.2.2] := rfl
  obtain ⟨c0, c1, c2, _⟩ := box3 w (.int .i64 a.1) (.int .i64 a.2.1) (.int .i64 a.2.2) 64
  have la := later_alloc w (.cells #[.int .i64 a.1, .int .i64 a.2.1, .int .i64 a.2.2] 64)
  repeat' (first | (simp (disch := omega) only [push_cast, ↓reduceIte, zA, zG, zB, zH, zI, zC, zJ, zK, zL, zD, zE, zF, zM, zN, zO, zP, zQ, reduceCtorEq, not_true_eq_false, not_false_eq_true, ec, c0, c1, c2, addr_add_eq, Nat.zero_add]) | (first | refine vIfE_of ?_ ?_ | refine vIfD_of ?_ ?_ | refine vIfQ_of ?_ ?_ | refine vIfV_of ?_ ?_) <;> intro _ | refine And.intro (by omega) ?_ | refine drawn_q ?_ | fail)
  generalize w.alloc (.cells #[.int .i64 a.1, .int .i64 a.2.1, .int .i64 a.2.2] 64) = w1 at *
  generalize w.heap.size = k at *
  refine (cfits_c _ _).mono ?_
  rintro _ w2 ⟨rfl, l2⟩
  have d1 := l2.cell c1
  have d2 := l2.cell c2
  repeat' (first | (simp (disch := omega) only [push_cast, ↓reduceIte, zA, zG, zB, zH, zI, zC, zJ, zK, zL, zD, zE, zF, zM, zN, zO, zP, zQ, reduceCtorEq, not_true_eq_false, not_false_eq_true, d1, d2, addr_add_eq, Nat.zero_add]) | (first | refine vIfE_of ?_ ?_ | refine vIfD_of ?_ ?_ | refine vIfQ_of ?_ ?_ | refine vIfV_of ?_ ?_) <;> intro _ | refine And.intro (by omega) ?_ | refine drawn_q ?_ | fail)
  refine (cfits_c _ _).mono ?_
  rintro _ w3 ⟨rfl, l3⟩
  have e1 := l3.cell d1
  have e2 := l3.cell d2
  repeat' (first | (simp (disch := omega) only [push_cast, ↓reduceIte, zA, zG, zB, zH, zI, zC, zJ, zK, zL, zD, zE, zF, zM, zN, zO, zP, zQ, reduceCtorEq, not_true_eq_false, not_false_eq_true, e1, e2, addr_add_eq, Nat.zero_add]) | (first | refine vIfE_of ?_ ?_ | refine vIfD_of ?_ ?_ | refine vIfQ_of ?_ ?_ | refine vIfV_of ?_ ?_) <;> intro _ | refine And.intro (by omega) ?_ | refine drawn_q ?_ | fail)
  refine (cfits_c _ _).mono ?_
  rintro _ w4 ⟨rfl, l4⟩
  have f1 := l4.cell e1
  have f2 := l4.cell e2
  have l04 := ((la.trans l2).trans l3).trans l4
  by_cases h1 : Fi a.1
  · by_cases h2 : Fi a.2.1
    · by_cases h3 : Fi a.2.2
      · rw [decide_eq_true h1, decide_eq_true h2, decide_eq_true h3]
        by_cases h4 : a.2.1 ≤ a.2.2
        · repeat' (first | (simp (disch := omega) only [push_cast, ↓reduceIte, zA, zG, zB, zH, zI, zC, zJ, zK, zL, zD, zE, zF, zM, zN, zO, zP, zQ, reduceCtorEq, not_true_eq_false, not_false_eq_true, f1, f2, addr_add_eq, Nat.zero_add]) | (first | refine vIfE_of ?_ ?_ | refine vIfD_of ?_ ?_ | refine vIfQ_of ?_ ?_ | refine vIfV_of ?_ ?_) <;> intro _ | refine And.intro (by omega) ?_ | refine drawn_q ?_ | fail)
          rw [decide_eq_true (show ARt a from ⟨h1, h2, h3, h4⟩), decide_eq_true h4]
          first | exact ⟨rfl, l04⟩ | exact l04
        · repeat' (first | (simp (disch := omega) only [push_cast, ↓reduceIte, zA, zG, zB, zH, zI, zC, zJ, zK, zL, zD, zE, zF, zM, zN, zO, zP, zQ, reduceCtorEq, not_true_eq_false, not_false_eq_true, f1, f2, addr_add_eq, Nat.zero_add]) | (first | refine vIfE_of ?_ ?_ | refine vIfD_of ?_ ?_ | refine vIfQ_of ?_ ?_ | refine vIfV_of ?_ ?_) <;> intro _ | refine And.intro (by omega) ?_ | refine drawn_q ?_ | fail)
          rw [decide_eq_false (show ¬ ARt a from fun h => h4 h.2.2.2), decide_eq_false h4]
          first | exact ⟨rfl, l04⟩ | exact l04
      · have hno : ¬ ARt a := fun hh => h3 hh.2.2.1
        rw [decide_eq_true h1, decide_eq_true h2, decide_eq_false h3]
        repeat' (first | (simp (disch := omega) only [push_cast, ↓reduceIte, zA, zG, zB, zH, zI, zC, zJ, zK, zL, zD, zE, zF, zM, zN, zO, zP, zQ, reduceCtorEq, not_true_eq_false, not_false_eq_true, f1, f2, addr_add_eq, Nat.zero_add]) | (first | refine vIfE_of ?_ ?_ | refine vIfD_of ?_ ?_ | refine vIfQ_of ?_ ?_ | refine vIfV_of ?_ ?_) <;> intro _ | refine And.intro (by omega) ?_ | refine drawn_q ?_ | fail)
        simp [hno, l04]
    · have hno : ¬ ARt a := fun hh => h2 hh.2.1
      rw [decide_eq_true h1, decide_eq_false h2]
      repeat' (first | (simp (disch := omega) only [push_cast, ↓reduceIte, zA, zG, zB, zH, zI, zC, zJ, zK, zL, zD, zE, zF, zM, zN, zO, zP, zQ, reduceCtorEq, not_true_eq_false, not_false_eq_true, f1, f2, addr_add_eq, Nat.zero_add]) | (first | refine vIfE_of ?_ ?_ | refine vIfD_of ?_ ?_ | refine vIfQ_of ?_ ?_ | refine vIfV_of ?_ ?_) <;> intro _ | refine And.intro (by omega) ?_ | refine drawn_q ?_ | fail)
      simp [hno, l04]
  · have hno : ¬ ARt a := fun hh => h1 hh.1
    rw [decide_eq_false h1]
    repeat' (first | (simp (disch := omega) only [push_cast, ↓reduceIte, zA, zG, zB, zH, zI, zC, zJ, zK, zL, zD, zE, zF, zM, zN, zO, zP, zQ, reduceCtorEq, not_true_eq_false, not_false_eq_true, f1, f2, addr_add_eq, Nat.zero_add]) | (first | refine vIfE_of ?_ ?_ | refine vIfD_of ?_ ?_ | refine vIfQ_of ?_ ?_ | refine vIfV_of ?_ ?_) <;> intro _ | refine And.intro (by omega) ?_ | refine drawn_q ?_ | fail)
    simp [hno, l04]
end Go.Proofs.Ythihbgpaoldbjaa
end
section
set_option linter.unusedSimpArgs false
namespace Go.Proofs.Ythihbgpaoldbjaa
open Go.Vc
set_option maxRecDepth 100000
theorem box3_later {w w' : World} {k : Nat} {a b c : Value} {e : TypeId} (h : Blk w k #[a, b, c] e) (hl : Later w w') : w'.cell? ⟨k, 0, none⟩ = some a ∧ w'.cell? ⟨k, 1, none⟩ = some b ∧ w'.cell? ⟨k, 2, none⟩ = some c ∧ cellsAt w' ⟨k, 0, none⟩ 3 = some [a, b, c] := by
  have := h.chg (Chg.of_later (ks := []) hl) (by simp)
  exact ⟨this.cell 0, this.cell 1, this.cell 2, Blk.cellsAt (l := [a, b, c]) this⟩
theorem ajoin_c (a b : Ag) (w : World) (ha : ARt a) (hb : ARt b) : FnC Try.prog 74 #[agV a, agV b] w fun r w' => r = jnV a b ∧ Later w w' := by
  have jt : Fi (a.1 + b.1) → jnV a b = .tuple #[agV (ajn a b), .int .i64 0] := fun h => if_pos h
  have jf : ¬ Fi (a.1 + b.1) → jnV a b = .tuple #[agV (0, 0, 0), .int .i64 121] := fun h => if_neg h
  unfold agV
  refine enter74 _ _ ?_
  unfold B74
  have eca : (Value.agg #[.int .i64 a.1, .int .i64 a.2.1, .int .i64 a.2.2]).cells = #[.int .i64 a.1, .int .i64 a.2.1, .int .i64 a.2.2] := rfl
  have ecb : (Value.agg #[.int .i64 b.1, .int .i64 b.2.1, .int .i64 b.2.2]).cells = #[.int .i64 b.1, .int .i64 b.2.1, .int .i64 b.2.2] := rfl
  have l1 := later_alloc w (.cells #[.int .i64 a.1, .int .i64 a.2.1, .int .i64 a.2.2] 64)
  have B1 := Blk.new w #[.int .i64 a.1, .int .i64 a.2.1, .int .i64 a.2.2] 64
  have s1 : (w.alloc (.cells #[.int .i64 a.1, .int .i64 a.2.1, .int .i64 a.2.2] 64)).heap.size = w.heap.size + 1 := World.size_alloc w _
  repeat' (first | (simp (disch := omega) only [push_cast, ↓reduceIte, zA, zG, zB, zH, zI, zC, zJ, zK, zL, zD, zE, zF, zM, zN, zO, zP, zQ, reduceCtorEq, not_true_eq_false, not_false_eq_true, eca, ecb]) | (first | refine vIfE_of ?_ ?_ | refine vIfD_of ?_ ?_ | refine vIfQ_of ?_ ?_ | refine vIfV_of ?_ ?_) <;> intro _ | refine And.intro (by omega) ?_ | refine drawn_q ?_ | fail)
  generalize w.alloc (.cells #[.int .i64 a.1, .int .i64 a.2.1, .int .i64 a.2.2] 64) = w1 at *
  have l2 := later_alloc w1 (.cells #[.int .i64 b.1, .int .i64 b.2.1, .int .i64 b.2.2] 64)
  have B2 := Blk.new w1 #[.int .i64 b.1, .int .i64 b.2.1, .int .i64 b.2.2] 64
  have s2 : (w1.alloc (.cells #[.int .i64 b.1, .int .i64 b.2.1, .int .i64 b.2.2] 64)).heap.size = w1.heap.size + 1 := World.size_alloc w1 _
  generalize w1.alloc (.cells #[.int .i64 b.1, .int .i64 b.2.1, .int .i64 b.2.2] 64) = w2 at *
  have l3 := later_alloc w2 (.cells #[.int .i64 0, .int .i64 0, .int .i64 0] 64)
  have B3 := Blk.new w2 #[.int .i64 0, .int .i64 0, .int .i64 0] 64
  generalize w2.alloc (.cells #[.int .i64 0, .int .i64 0, .int .i64 0] 64) = w3 at *
  have FA := fun w' (hl : Later w3 w') => box3_later B1 ((l2.trans l3).trans hl)
  have FB := fun w' (hl : Later w3 w') => box3_later B2 (l3.trans hl)
  have l03 := (l1.trans l2).trans l3
  clear l1 l2 l3 B1 B2
  obtain ⟨_, _, _, a3⟩ := FA w3 (Later.refl _)
  repeat' (first | (simp (disch := omega) only [push_cast, ↓reduceIte, zA, zG, zB, zH, zI, zC, zJ, zK, zL, zD, zE, zF, zM, zN, zO, zP, zQ, reduceCtorEq, not_true_eq_false, not_false_eq_true, a3]) | (first | refine vIfE_of ?_ ?_ | refine vIfD_of ?_ ?_ | refine vIfQ_of ?_ ?_ | refine vIfV_of ?_ ?_) <;> intro _ | refine And.intro (by omega) ?_ | refine drawn_q ?_ | fail)
  refine (aright_c a w3).mono ?_
  rintro _ w4 ⟨rfl, l4⟩
  rw [decide_eq_true ha]
  obtain ⟨_, _, _, b3⟩ := FB w4 l4
  repeat' (first | (simp (disch := omega) only [push_cast, ↓reduceIte, zA, zG, zB, zH, zI, zC, zJ, zK, zL, zD, zE, zF, zM, zN, zO, zP, zQ, reduceCtorEq, not_true_eq_false, not_false_eq_true, b3]) | (first | refine vIfE_of ?_ ?_ | refine vIfD_of ?_ ?_ | refine vIfQ_of ?_ ?_ | refine vIfV_of ?_ ?_) <;> intro _ | refine And.intro (by omega) ?_ | refine drawn_q ?_ | fail)
  refine (aright_c b w4).mono ?_
  rintro _ w5 ⟨rfl, l5⟩
  rw [decide_eq_true hb]
  have l35 := l4.trans l5
  obtain ⟨c0, c1, c2, _⟩ := FA w5 l35
  obtain ⟨d0, d1, d2, _⟩ := FB w5 l35
  have hB3 := B3.chg (Chg.of_later (ks := []) l35) (by simp)
  have hlE := l03.trans l35
  have hks : ∀ k ∈ [w2.heap.size], w.heap.size ≤ k := by intro k hk; rw [List.mem_singleton.1 hk]; omega
  clear FA FB B3 a3 b3 l4 l5 l03 l35
  obtain ⟨⟨ha1, ha2⟩, ⟨ha3, ha4⟩, ⟨ha5, ha6⟩, ha7⟩ := ha
  obtain ⟨⟨hb1, hb2⟩, ⟨hb3, hb4⟩, ⟨hb5, hb6⟩, hb7⟩ := hb
  have fin : ∀ (x : Ag) (e : Int) (w6 : World) (σ : Env), Blk w6 w2.heap.size (agC x).toArray 64 → Chg w5 w6 [w2.heap.size] → σ 4 = .pointer (some ⟨w2.heap.size, 0, none⟩) → σ 5 = .int .i64 e → jnV a b = .tuple #[agV x, .int .i64 e] →
      resK Try.prog [.cell 4 64, .tmp 5] [] σ (fun r w' => r = jnV a b ∧ Later w w') w6 := by
    intro x e w6 σ hb6 hc6 h4 h5 hj
    refine resK_cells (s := 3) h4 (by rw [Try.underlying64]; exact sz64) (Blk.cellsAt (l := agC x) hb6) ?_
    repeat' (first | (simp (disch := omega) only [push_cast, ↓reduceIte, zA, zG, zB, zH, zI, zC, zJ, zK, zL, zD, zE, zF, zM, zN, zO, zP, zQ, reduceCtorEq, not_true_eq_false, not_false_eq_true, h5]) | (first | refine vIfE_of ?_ ?_ | refine vIfD_of ?_ ?_ | refine vIfQ_of ?_ ?_ | refine vIfV_of ?_ ?_) <;> intro _ | refine And.intro (by omega) ?_ | refine drawn_q ?_ | fail)
    rw [hj]
    exact ⟨rfl, Chg.later hlE hc6 hks⟩
  by_cases hf : Fi (a.1 + b.1)
  · have := jt hf
    obtain ⟨hf1, hf2⟩ := hf
    repeat' (first | (simp (disch := omega) only [push_cast, ↓reduceIte, zA, zG, zB, zH, zI, zC, zJ, zK, zL, zD, zE, zF, zM, zN, zO, zP, zQ, reduceCtorEq, not_true_eq_false, not_false_eq_true, c0, c1, c2, d0, d1, d2, addr_add_eq, Nat.zero_add]) | (first | refine vIfE_of ?_ ?_ | refine vIfD_of ?_ ?_ | refine vIfQ_of ?_ ?_ | refine vIfV_of ?_ ?_) <;> intro _ | refine And.intro (by omega) ?_ | refine drawn_q ?_ | fail)
    all_goals
      refine vStore_blk (l := [.int .i64 0, .int .i64 0, .int .i64 0]) (xs := agC (ajn a b)) hB3 rfl rfl (agC_one _) ?_
      intro w6 hb6 hc6
      repeat' (first | (simp (disch := omega) only [push_cast, ↓reduceIte, zA, zG, zB, zH, zI, zC, zJ, zK, zL, zD, zE, zF, zM, zN, zO, zP, zQ, reduceCtorEq, not_true_eq_false, not_false_eq_true]) | (first | refine vIfE_of ?_ ?_ | refine vIfD_of ?_ ?_ | refine vIfQ_of ?_ ?_ | refine vIfV_of ?_ ?_) <;> intro _ | refine And.intro (by omega) ?_ | refine drawn_q ?_ | fail)
      exact fin _ _ w6 _ hb6 hc6 (by simp (disch := omega) only [push_cast, ↓reduceIte, zA, zG, zB, zH, zI, zC, zJ, zK, zL, zD, zE, zF, zM, zN, zO, zP, zQ, reduceCtorEq, not_true_eq_false, not_false_eq_true]) (by simp (disch := omega) only [push_cast, ↓reduceIte, zA, zG, zB, zH, zI, zC, zJ, zK, zL, zD, zE, zF, zM, zN, zO, zP, zQ, reduceCtorEq, not_true_eq_false, not_false_eq_true]) this
  · have := jf hf
    have hf' : a.1 + b.1 < -4611686018427387904 ∨ 4611686018427387904 < a.1 + b.1 := by unfold Fi at hf; omega
    clear hf
    repeat' (first | (simp (disch := omega) only [push_cast, ↓reduceIte, zA, zG, zB, zH, zI, zC, zJ, zK, zL, zD, zE, zF, zM, zN, zO, zP, zQ, reduceCtorEq, not_true_eq_false, not_false_eq_true, c0, c1, c2, d0, d1, d2, addr_add_eq, Nat.zero_add]) | (first | refine vIfE_of ?_ ?_ | refine vIfD_of ?_ ?_ | refine vIfQ_of ?_ ?_ | refine vIfV_of ?_ ?_) <;> intro _ | refine And.intro (by omega) ?_ | refine drawn_q ?_ | fail)
    all_goals
      refine vStore_blk (l := [.int .i64 0, .int .i64 0, .int .i64 0]) (xs := agC (0, 0, 0)) hB3 rfl rfl (agC_one _) ?_
      intro w6 hb6 hc6
      repeat' (first | (simp (disch := omega) only [push_cast, ↓reduceIte, zA, zG, zB, zH, zI, zC, zJ, zK, zL, zD, zE, zF, zM, zN, zO, zP, zQ, reduceCtorEq, not_true_eq_false, not_false_eq_true]) | (first | refine vIfE_of ?_ ?_ | refine vIfD_of ?_ ?_ | refine vIfQ_of ?_ ?_ | refine vIfV_of ?_ ?_) <;> intro _ | refine And.intro (by omega) ?_ | refine drawn_q ?_ | fail)
      exact fin _ _ w6 _ hb6 hc6 (by simp (disch := omega) only [push_cast, ↓reduceIte, zA, zG, zB, zH, zI, zC, zJ, zK, zL, zD, zE, zF, zM, zN, zO, zP, zQ, reduceCtorEq, not_true_eq_false, not_false_eq_true]) (by simp (disch := omega) only [push_cast, ↓reduceIte, zA, zG, zB, zH, zI, zC, zJ, zK, zL, zD, zE, zF, zM, zN, zO, zP, zQ, reduceCtorEq, not_true_eq_false, not_false_eq_true]) this
theorem cajoin_c (a b : Ag) (w : World) (ha : ARt a) (hb : ARt b) : FnC Try.prog 75 #[agV a, agV b] w fun r w' => r = jnV a b ∧ Later w w' := by
  have jt : Fi (a.1 + b.1) → jnV a b = .tuple #[agV (ajn a b), .int .i64 0] := fun h => if_pos h
  have jf : ¬ Fi (a.1 + b.1) → jnV a b = .tuple #[agV (0, 0, 0), .int .i64 121] := fun h => if_neg h
  unfold agV
  refine enter75 _ _ ?_
  unfold B75
  have eca : (Value.agg #[.int .i64 a.1, .int .i64 a.2.1, .int .i64 a.2.2]).cells = #[.int .i64 a.1, .int .i64 a.2.1, .int .i64 a.2.2] := rfl
  have ecb : (Value.agg #[.int .i64 b.1, .int .i64 b.2.1, .int .i64 b.2.2]).cells = #[.int .i64 b.1, .int .i64 b.2.1, .int .i64 b.2.2] := rfl
  have l1 := later_alloc w (.cells #[.int .i64 a.1, .int .i64 a.2.1, .int .i64 a.2.2] 64)
  have B1 := Blk.new w #[.int .i64 a.1, .int .i64 a.2.1, .int .i64 a.2.2] 64
  have s1 : (w.alloc (.cells #[.int .i64 a.1, .int .i64 a.2.1, .int .i64 a.2.2] 64)).heap.size = w.heap.size + 1 := World.size_alloc w _
  repeat' (first | (simp (disch := omega) only [push_cast, ↓reduceIte, zA, zG, zB, zH, zI, zC, zJ, zK, zL, zD, zE, zF, zM, zN, zO, zP, zQ, reduceCtorEq, not_true_eq_false, not_false_eq_true, eca, ecb]) | (first | refine vIfE_of ?_ ?_ | refine vIfD_of ?_ ?_ | refine vIfQ_of ?_ ?_ | refine vIfV_of ?_ ?_) <;> intro _ | refine And.intro (by omega) ?_ | refine drawn_q ?_ | fail)
  generalize w.alloc (.cells #[.int .i64 a.1, .int .i64 a.2.1, .int .i64 a.2.2] 64) = w1 at *
  have l2 := later_alloc w1 (.cells #[.int .i64 b.1, .int .i64 b.2.1, .int .i64 b.2.2] 64)
  have B2 := Blk.new w1 #[.int .i64 b.1, .int .i64 b.2.1, .int .i64 b.2.2] 64
  have s2 : (w1.alloc (.cells #[.int .i64 b.1, .int .i64 b.2.1, .int .i64 b.2.2] 64)).heap.size = w1.heap.size + 1 := World.size_alloc w1 _
  generalize w1.alloc (.cells #[.int .i64 b.1, .int .i64 b.2.1, .int .i64 b.2.2] 64) = w2 at *
  have l3 := later_alloc w2 (.cells #[.int .i64 0, .int .i64 0, .int .i64 0] 64)
  have B3 := Blk.new w2 #[.int .i64 0, .int .i64 0, .int .i64 0] 64
  generalize w2.alloc (.cells #[.int .i64 0, .int .i64 0, .int .i64 0] 64) = w3 at *
  have FA := fun w' (hl : Later w3 w') => box3_later B1 ((l2.trans l3).trans hl)
  have FB := fun w' (hl : Later w3 w') => box3_later B2 (l3.trans hl)
  have l03 := (l1.trans l2).trans l3
  clear l1 l2 l3 B1 B2
  obtain ⟨_, _, _, a3⟩ := FA w3 (Later.refl _)
  repeat' (first | (simp (disch := omega) only [push_cast, ↓reduceIte, zA, zG, zB, zH, zI, zC, zJ, zK, zL, zD, zE, zF, zM, zN, zO, zP, zQ, reduceCtorEq, not_true_eq_false, not_false_eq_true, a3]) | (first | refine vIfE_of ?_ ?_ | refine vIfD_of ?_ ?_ | refine vIfQ_of ?_ ?_ | refine vIfV_of ?_ ?_) <;> intro _ | refine And.intro (by omega) ?_ | refine drawn_q ?_ | fail)
  refine (caright_c a w3).mono ?_
  rintro _ w4 ⟨rfl, l4⟩
  rw [decide_eq_true ha]
  obtain ⟨_, _, _, b3⟩ := FB w4 l4
  repeat' (first | (simp (disch := omega) only [push_cast, ↓reduceIte, zA, zG, zB, zH, zI, zC, zJ, zK, zL, zD, zE, zF, zM, zN, zO, zP, zQ, reduceCtorEq, not_true_eq_false, not_false_eq_true, b3]) | (first | refine vIfE_of ?_ ?_ | refine vIfD_of ?_ ?_ | refine vIfQ_of ?_ ?_ | refine vIfV_of ?_ ?_) <;> intro _ | refine And.intro (by omega) ?_ | refine drawn_q ?_ | fail)
  refine (caright_c b w4).mono ?_
  rintro _ w5 ⟨rfl, l5⟩
  rw [decide_eq_true hb]
  have l35 := l4.trans l5
  obtain ⟨c0, c1, c2, _⟩ := FA w5 l35
  obtain ⟨d0, d1, d2, _⟩ := FB w5 l35
  have hB3 := B3.chg (Chg.of_later (ks := []) l35) (by simp)
  have hlE := l03.trans l35
  have hks : ∀ k ∈ [w2.heap.size], w.heap.size ≤ k := by intro k hk; rw [List.mem_singleton.1 hk]; omega
  clear FA FB B3 a3 b3 l4 l5 l03 l35
  obtain ⟨⟨ha1, ha2⟩, ⟨ha3, ha4⟩, ⟨ha5, ha6⟩, ha7⟩ := ha
  obtain ⟨⟨hb1, hb2⟩, ⟨hb3, hb4⟩, ⟨hb5, hb6⟩, hb7⟩ := hb
  have fin : ∀ (x : Ag) (e : Int) (w6 : World) (σ : Env), Blk w6 w2.heap.size (agC x).toArray 64 → Chg w5 w6 [w2.heap.size] → σ 4 = .pointer (some ⟨w2.heap.size, 0, none⟩) → σ 5 = .int .i64 e → jnV a b = .tuple #[agV x, .int .i64 e] →
      resK Try.prog [.cell 4 64, .tmp 5] [] σ (fun r w' => r = jnV a b ∧ Later w w') w6 := by
    intro x e w6 σ hb6 hc6 h4 h5 hj
    refine resK_cells (s := 3) h4 (by rw [Try.underlying64]; exact sz64) (Blk.cellsAt (l := agC x) hb6) ?_
    repeat' (first | (simp (disch := omega) only [push_cast, ↓reduceIte, zA, zG, zB, zH, zI, zC, zJ, zK, zL, zD, zE, zF, zM, zN, zO, zP, zQ, reduceCtorEq, not_true_eq_false, not_false_eq_true, h5]) | (first | refine vIfE_of ?_ ?_ | refine vIfD_of ?_ ?_ | refine vIfQ_of ?_ ?_ | refine vIfV_of ?_ ?_) <;> intro _ | refine And.intro (by omega) ?_ | refine drawn_q ?_ | fail)
    rw [hj]
    exact ⟨rfl, Chg.later hlE hc6 hks⟩
  by_cases hf : Fi (a.1 + b.1)
  · have := jt hf
    obtain ⟨hf1, hf2⟩ := hf
    repeat' (first | (simp (disch := omega) only [push_cast, ↓reduceIte, zA, zG, zB, zH, zI, zC, zJ, zK, zL, zD, zE, zF, zM, zN, zO, zP, zQ, reduceCtorEq, not_true_eq_false, not_false_eq_true, c0, c1, c2, d0, d1, d2, addr_add_eq, Nat.zero_add]) | (first | refine vIfE_of ?_ ?_ | refine vIfD_of ?_ ?_ | refine vIfQ_of ?_ ?_ | refine vIfV_of ?_ ?_) <;> intro _ | refine And.intro (by omega) ?_ | refine drawn_q ?_ | fail)
    all_goals
      refine vStore_blk (l := [.int .i64 0, .int .i64 0, .int .i64 0]) (xs := agC (ajn a b)) hB3 rfl rfl (agC_one _) ?_
      intro w6 hb6 hc6
      repeat' (first | (simp (disch := omega) only [push_cast, ↓reduceIte, zA, zG, zB, zH, zI, zC, zJ, zK, zL, zD, zE, zF, zM, zN, zO, zP, zQ, reduceCtorEq, not_true_eq_false, not_false_eq_true]) | (first | refine vIfE_of ?_ ?_ | refine vIfD_of ?_ ?_ | refine vIfQ_of ?_ ?_ | refine vIfV_of ?_ ?_) <;> intro _ | refine And.intro (by omega) ?_ | refine drawn_q ?_ | fail)
      exact fin _ _ w6 _ hb6 hc6 (by simp (disch := omega) only [push_cast, ↓reduceIte, zA, zG, zB, zH, zI, zC, zJ, zK, zL, zD, zE, zF, zM, zN, zO, zP, zQ, reduceCtorEq, not_true_eq_false, not_false_eq_true]) (by simp (disch := omega) only [push_cast, ↓reduceIte, zA, zG, zB, zH, zI, zC, zJ, zK, zL, zD, zE, zF, zM, zN, zO, zP, zQ, reduceCtorEq, not_true_eq_false, not_false_eq_true]) this
  · have := jf hf
    have hf' : a.1 + b.1 < -4611686018427387904 ∨ 4611686018427387904 < a.1 + b.1 := by unfold Fi at hf; omega
    clear hf
    repeat' (first | (simp (disch := omega) only [push_cast, ↓reduceIte, zA, zG, zB, zH, zI, zC, zJ, zK, zL, zD, zE, zF, zM, zN, zO, zP, zQ, reduceCtorEq, not_true_eq_false, not_false_eq_true, c0, c1, c2, d0, d1, d2, addr_add_eq, Nat.zero_add]) | (first | refine vIfE_of ?_ ?_ | refine vIfD_of ?_ ?_ | refine vIfQ_of ?_ ?_ | refine vIfV_of ?_ ?_) <;> intro _ | refine And.intro (by omega) ?_ | refine drawn_q ?_ | fail)
    all_goals
      refine vStore_blk (l := [.int .i64 0, .int .i64 0, .int .i64 0]) (xs := agC (0, 0, 0)) hB3 rfl rfl (agC_one _) ?_
      intro w6 hb6 hc6
      repeat' (first | (simp (disch := omega) only [push_cast, ↓reduceIte, zA, zG, zB, zH, zI, zC, zJ, zK, zL, zD, zE, zF, zM, zN, zO, zP, zQ, reduceCtorEq, not_true_eq_false, not_false_eq_true]) | (first | refine vIfE_of ?_ ?_ | refine vIfD_of ?_ ?_ | refine vIfQ_of ?_ ?_ | refine vIfV_of ?_ ?_) <;> intro _ | refine And.intro (by omega) ?_ | refine drawn_q ?_ | fail)
      exact fin _ _ w6 _ hb6 hc6 (by simp (disch := omega) only [push_cast, ↓reduceIte, zA, zG, zB, zH, zI, zC, zJ, zK, zL, zD, zE, zF, zM, zN, zO, zP, zQ, reduceCtorEq, not_true_eq_false, not_false_eq_true]) (by simp (disch := omega) only [push_cast, ↓reduceIte, zA, zG, zB, zH, zI, zC, zJ, zK, zL, zD, zE, zF, zM, zN, zO, zP, zQ, reduceCtorEq, not_true_eq_false, not_false_eq_true]) this
/-- Two aggs, held against one another, in an expression of two ways. -/
theorem qX_agg {x y : Operand} {u ty : TypeId} {σ : Env} {w : World} {K : Value → Prop} {a b : Ag} (hx : ev σ x = agV a) (hy : ev σ y = agV b) (hk : K (.bool (!decide (a = b)))) :
    qX Try.prog (.binOp .neq 64 x y u) ty σ w K := by
  refine pure_of_up (s := do eqGuard .neq 64 x y (ev σ x) (ev σ y); binOp .neq 64 (ev σ x) (ev σ y)) (fun w' => ?_) ⟨_, fun w' => ?_, hk⟩
  · unfold exe; simp only [execOp]; rfl
  · rw [hx, hy]
    exact run_triple Try.underlying64 Try.underlying3 Try.underlying3 Try.underlying3 rfl rfl rfl (by decide) (by decide) (by decide) (by kernel_rfl) (by kernel_rfl) _ _ _ _ _ _ _ _ _
theorem casame_c (u v : Value) (a b : List Ag) (w : World) (hu : AgS w u a) (hv : AgS w v b) : FnC Try.prog 67 #[u, v] w fun r w' => r = .bool (decide (a = b)) ∧ Later w w' := by
  obtain ⟨oa, ca, rfl, g1, g2⟩ := hu.slice
  obtain ⟨ob, cb, rfl, k1, k2⟩ := hv.slice
  refine enter67 _ _ ?_
  unfold B67
  by_cases hlen : a.length = b.length
  · repeat' (first | (simp (disch := omega) only [push_cast, ↓reduceIte, zA, zG, zB, zH, zI, zC, zJ, zK, zL, zD, zE, zF, zM, zN, zO, zP, zQ, reduceCtorEq, not_true_eq_false, not_false_eq_true]) | (first | refine vIfE_of ?_ ?_ | refine vIfD_of ?_ ?_ | refine vIfQ_of ?_ ?_ | refine vIfV_of ?_ ?_) <;> intro _ | refine And.intro (by omega) ?_ | refine drawn_q ?_ | fail)
    refine vc_loop W67_0 (fun i : Nat => [(4, .bool false), (5, .int .i64 (i : Int))])
      (fun i w' => i ≤ a.length ∧ Later w w' ∧ a.take i = b.take i) (fun i => a.length - i) 0 (by decide) ?_ ?_ ?_
    · simp (disch := omega) only [push_cast, ↓reduceIte, zA, zG, zB, zH, zI, zC, zJ, zK, zL, zD, zE, zF, zM, zN, zO, zP, zQ, reduceCtorEq, not_true_eq_false, not_false_eq_true]
    · exact ⟨by omega, Later.refl _, by simp⟩
    rintro i uu w0 ⟨hi, hl, he⟩
    by_cases ha : i < a.length
    · have hb : i < b.length := by omega
      obtain ⟨aa, rfl, c1⟩ := RecS.at agC_len (hu.later hl) ha
      obtain ⟨bb, rfl, c2⟩ := RecS.at agC_len (hv.later hl) hb
      unfold agC at c1 c2
      repeat' (first | (simp (disch := omega) only [push_cast, ↓reduceIte, zA, zG, zB, zH, zI, zC, zJ, zK, zL, zD, zE, zF, zM, zN, zO, zP, zQ, reduceCtorEq, not_true_eq_false, not_false_eq_true]) | (first | refine vIfE_of ?_ ?_ | refine vIfD_of ?_ ?_ | refine vIfQ_of ?_ ?_ | refine vIfV_of ?_ ?_) <;> intro _ | refine And.intro (by omega) ?_ | fail)
      refine drawn_q ?_
      repeat' (first | (simp (disch := omega) only [push_cast, ↓reduceIte, zA, zG, zB, zH, zI, zC, zJ, zK, zL, zD, zE, zF, zM, zN, zO, zP, zQ, reduceCtorEq, not_true_eq_false, not_false_eq_true, c1, c2]) | (first | refine vIfE_of ?_ ?_ | refine vIfD_of ?_ ?_ | refine vIfQ_of ?_ ?_ | refine vIfV_of ?_ ?_) <;> intro _ | refine And.intro (by omega) ?_ | refine drawn_q ?_ | fail)
      refine qX_agg (a := a[i]) (b := b[i]) (by simp (disch := omega) only [push_cast, ↓reduceIte, zA, zG, zB, zH, zI, zC, zJ, zK, zL, zD, zE, zF, zM, zN, zO, zP, zQ, reduceCtorEq, not_true_eq_false, not_false_eq_true]; rfl) (by simp (disch := omega) only [push_cast, ↓reduceIte, zA, zG, zB, zH, zI, zC, zJ, zK, zL, zD, zE, zF, zM, zN, zO, zP, zQ, reduceCtorEq, not_true_eq_false, not_false_eq_true]; rfl) ?_
      by_cases hab : a[i] = b[i]
      · repeat' (first | (simp (disch := omega) only [push_cast, ↓reduceIte, zA, zG, zB, zH, zI, zC, zJ, zK, zL, zD, zE, zF, zM, zN, zO, zP, zQ, reduceCtorEq, not_true_eq_false, not_false_eq_true, hab, decide_true]) | (first | refine vIfE_of ?_ ?_ | refine vIfD_of ?_ ?_ | refine vIfQ_of ?_ ?_ | refine vIfV_of ?_ ?_) <;> intro _ | refine And.intro (by omega) ?_ | refine drawn_q ?_ | fail)
        intro w1 hl1
        repeat' (first | (simp (disch := omega) only [push_cast, ↓reduceIte, zA, zG, zB, zH, zI, zC, zJ, zK, zL, zD, zE, zF, zM, zN, zO, zP, zQ, reduceCtorEq, not_true_eq_false, not_false_eq_true]) | (first | refine vIfE_of ?_ ?_ | refine vIfD_of ?_ ?_ | refine vIfQ_of ?_ ?_ | refine vIfV_of ?_ ?_) <;> intro _ | refine And.intro (by omega) ?_ | refine drawn_q ?_ | fail)
        refine ⟨rfl, i + 1, by simp (disch := omega) only [push_cast, ↓reduceIte, zA, zG, zB, zH, zI, zC, zJ, zK, zL, zD, zE, zF, zM, zN, zO, zP, zQ, reduceCtorEq, not_true_eq_false, not_false_eq_true], ⟨by omega, hl.trans hl1, ?_⟩, by simp; omega⟩
        rw [take_snoc a i ha, take_snoc b i hb, he, hab]
      · have hne : a ≠ b := fun e => by subst e; exact hab rfl
        repeat' (first | (simp (disch := omega) only [push_cast, ↓reduceIte, zA, zG, zB, zH, zI, zC, zJ, zK, zL, zD, zE, zF, zM, zN, zO, zP, zQ, reduceCtorEq, not_true_eq_false, not_false_eq_true, hab, decide_false]) | (first | refine vIfE_of ?_ ?_ | refine vIfD_of ?_ ?_ | refine vIfQ_of ?_ ?_ | refine vIfV_of ?_ ?_) <;> intro _ | refine And.intro (by omega) ?_ | refine drawn_q ?_ | fail)
        intro w1 hl1
        repeat' (first | (simp (disch := omega) only [push_cast, ↓reduceIte, zA, zG, zB, zH, zI, zC, zJ, zK, zL, zD, zE, zF, zM, zN, zO, zP, zQ, reduceCtorEq, not_true_eq_false, not_false_eq_true]) | (first | refine vIfE_of ?_ ?_ | refine vIfD_of ?_ ?_ | refine vIfQ_of ?_ ?_ | refine vIfV_of ?_ ?_) <;> intro _ | refine And.intro (by omega) ?_ | refine drawn_q ?_ | fail)
        simp [hne, hl.trans hl1]
    · have e : i = a.length := by omega
      subst e
      rw [List.take_length, hlen, List.take_length] at he
      repeat' (first | (simp (disch := omega) only [push_cast, ↓reduceIte, zA, zG, zB, zH, zI, zC, zJ, zK, zL, zD, zE, zF, zM, zN, zO, zP, zQ, reduceCtorEq, not_true_eq_false, not_false_eq_true]) | (first | refine vIfE_of ?_ ?_ | refine vIfD_of ?_ ?_ | refine vIfQ_of ?_ ?_ | refine vIfV_of ?_ ?_) <;> intro _ | refine And.intro (by omega) ?_ | refine drawn_q ?_ | fail)
      simp [he, hl]
  · have hne : a ≠ b := fun e => by subst e; exact hlen rfl
    repeat' (first | (simp (disch := omega) only [push_cast, ↓reduceIte, zA, zG, zB, zH, zI, zC, zJ, zK, zL, zD, zE, zF, zM, zN, zO, zP, zQ, reduceCtorEq, not_true_eq_false, not_false_eq_true]) | (first | refine vIfE_of ?_ ?_ | refine vIfD_of ?_ ?_ | refine vIfQ_of ?_ ?_ | refine vIfV_of ?_ ?_) <;> intro _ | refine And.intro (by omega) ?_ | refine drawn_q ?_ | fail)
    simp [hne, Later.refl]
end Go.Proofs.Ythihbgpaoldbjaa
end
section
namespace Go.Key
open Go.Stab
theorem bl_tri : ∀ (a b : List UInt8), (Op.bytesLess a b = true ∧ Op.bytesLess b a = false ∧ a ≠ b) ∨ (a = b ∧ Op.bytesLess a b = false) ∨ (Op.bytesLess a b = false ∧ Op.bytesLess b a = true ∧ a ≠ b)
  | [], [] => .inr (.inl ⟨rfl, rfl⟩)
  | [], _ :: _ => .inl ⟨rfl, rfl, by simp⟩
  | _ :: _, [] => .inr (.inr ⟨rfl, rfl, by simp⟩)
  | x :: a, y :: b => by
    rcases UInt8.lt_or_lt_of_ne (a := x) (b := y) |> fun h => (Decidable.em (x = y)).imp id h with e | e | e
    · subst e
      have hx : ¬ x < x := UInt8.lt_irrefl x
      rcases bl_tri a b with ⟨h1, h2, h3⟩ | ⟨h1, h2⟩ | ⟨h1, h2, h3⟩
      · exact .inl ⟨by simp [Op.bytesLess, h1], by simp [Op.bytesLess, h2, hx], by simpa using h3⟩
      · exact .inr (.inl ⟨by rw [h1], by simp [Op.bytesLess, h2, hx]⟩)
      · exact .inr (.inr ⟨by simp [Op.bytesLess, h1, hx], by simp [Op.bytesLess, h2], by simpa using h3⟩)
    · have n : ¬ y < x := fun h => UInt8.lt_irrefl _ (UInt8.lt_trans h e)
      have ne : x ≠ y := fun h => by subst h; exact UInt8.lt_irrefl _ e
      exact .inl ⟨by simp [Op.bytesLess, e], by simp [Op.bytesLess, n, Ne.symm ne], by simp [ne]⟩
    · have n : ¬ x < y := fun h => UInt8.lt_irrefl _ (UInt8.lt_trans h e)
      have ne : x ≠ y := fun h => by subst h; exact UInt8.lt_irrefl _ e
      exact .inr (.inr ⟨by simp [Op.bytesLess, n, ne], by simp [Op.bytesLess, e], by simp [ne]⟩)
theorem bl_trans : ∀ (a b c : List UInt8), Op.bytesLess a b = true → Op.bytesLess b c = true → Op.bytesLess a c = true
  | _, [], _, h, _ => by simp [Op.bytesLess] at h
  | _, _ :: _, [], _, h => by simp [Op.bytesLess] at h
  | [], _ :: _, _ :: _, _, _ => rfl
  | x :: a, y :: b, z :: c, h, g => by
    simp only [Op.bytesLess, Bool.or_eq_true, decide_eq_true_eq, Bool.and_eq_true, beq_iff_eq] at h g ⊢
    rcases h with h | ⟨rfl, h⟩ <;> rcases g with g | ⟨rfl, g⟩
    · exact .inl (UInt8.lt_trans h g)
    · exact .inl h
    · exact .inl g
    · exact .inr ⟨rfl, bl_trans a b c h g⟩
/-- Texts. -/
def blt (a b : ByteArray) : Bool := Op.bytesLess a.data.toList b.data.toList
theorem ba_ext {a b : ByteArray} (h : a.data.toList = b.data.toList) : a = b := by
  cases a; cases b
  congr
  exact Array.ext' h
theorem blt_tri (a b : ByteArray) : (blt a b = true ∧ blt b a = false ∧ a ≠ b) ∨ (a = b ∧ blt a b = false) ∨ (blt a b = false ∧ blt b a = true ∧ a ≠ b) := by
  rcases bl_tri a.data.toList b.data.toList with ⟨h1, h2, h3⟩ | ⟨h1, h2⟩ | ⟨h1, h2, h3⟩
  · exact .inl ⟨h1, h2, fun e => h3 (by rw [e])⟩
  · exact .inr (.inl ⟨ba_ext h1, h2⟩)
  · exact .inr (.inr ⟨h1, h2, fun e => h3 (by rw [e])⟩)
def cstr (a b : ByteArray) : Int := if blt a b = true then -1 else if a = b then 0 else 1
theorem cstr_is (a b : ByteArray) : (cstr a b = -1 ∧ cstr b a = 1 ∧ blt a b = true) ∨ (cstr a b = 0 ∧ cstr b a = 0 ∧ a = b) ∨ (cstr a b = 1 ∧ cstr b a = -1 ∧ blt b a = true) := by
  rcases blt_tri a b with ⟨h1, h2, h3⟩ | ⟨h1, h2⟩ | ⟨h1, h2, h3⟩
  · exact .inl ⟨by simp [cstr, h1], by simp [cstr, h2, Ne.symm h3], h1⟩
  · subst h1; exact .inr (.inl ⟨by simp [cstr, h2], by simp [cstr, h2], rfl⟩)
  · exact .inr (.inr ⟨by simp [cstr, h1, h3], by simp [cstr, h2], h2⟩)
/-- Lists of texts. -/
def clist : List ByteArray → List ByteArray → Int
  | [], [] => 0
  | [], _ :: _ => -1
  | _ :: _, [] => 1
  | a :: x, b :: y => if cstr a b = 0 then clist x y else cstr a b
theorem clist_is : ∀ (a b : List ByteArray), (clist a b = -1 ∧ clist b a = 1 ∧ a ≠ b) ∨ (clist a b = 0 ∧ clist b a = 0 ∧ a = b) ∨ (clist a b = 1 ∧ clist b a = -1 ∧ a ≠ b)
  | [], [] => .inr (.inl ⟨rfl, rfl, rfl⟩)
  | [], _ :: _ => .inl ⟨rfl, rfl, by simp⟩
  | _ :: _, [] => .inr (.inr ⟨rfl, rfl, by simp⟩)
  | x :: a, y :: b => by
    rcases cstr_is x y with ⟨h1, h2, h3⟩ | ⟨h1, h2, h3⟩ | ⟨h1, h2, h3⟩
    · refine .inl ⟨by simp [clist, h1], by simp [clist, h2], fun e => ?_⟩
      obtain ⟨rfl, _⟩ := List.cons.inj e
      rw [h1] at h2; cases h2
    · subst h3
      rcases clist_is a b with ⟨g1, g2, g3⟩ | ⟨g1, g2, g3⟩ | ⟨g1, g2, g3⟩
      · exact .inl ⟨by simp [clist, h1, g1], by simp [clist, h1, g2], by simp [g3]⟩
      · exact .inr (.inl ⟨by simp [clist, h1, g1], by simp [clist, h1, g2], by simp [g3]⟩)
      · exact .inr (.inr ⟨by simp [clist, h1, g1], by simp [clist, h1, g2], by simp [g3]⟩)
    · refine .inr (.inr ⟨by simp [clist, h1], by simp [clist, h2], fun e => ?_⟩)
      obtain ⟨rfl, _⟩ := List.cons.inj e
      rw [h1] at h2; cases h2
theorem cstr_trans {a b c : ByteArray} (h : cstr a b = -1) (g : cstr b c = -1) : cstr a c = -1 := by
  have h1 : blt a b = true := by
    rcases cstr_is a b with h' | h' | h'
    · exact h'.2.2
    · rw [h] at h'; cases h'.1
    · rw [h] at h'; cases h'.1
  have h2 : blt b c = true := by
    rcases cstr_is b c with h' | h' | h'
    · exact h'.2.2
    · rw [g] at h'; cases h'.1
    · rw [g] at h'; cases h'.1
  have : blt a c = true := bl_trans _ _ _ h1 h2
  simp [cstr, this]
theorem clist_trans : ∀ (a b c : List ByteArray), clist a b = -1 → clist b c = -1 → clist a c = -1
  | [], [], _, h, _ => by simp [clist] at h
  | _ :: _, [], _, h, _ => by simp [clist] at h
  | _, _ :: _, [], _, h => by simp [clist] at h
  | [], _ :: _, _ :: _, _, _ => rfl
  | x :: a, y :: b, z :: c, h, g => by
    simp only [clist] at h g ⊢
    by_cases e1 : cstr x y = 0
    · have exy : x = y := by
        rcases cstr_is x y with h' | h' | h'
        · rw [e1] at h'; cases h'.1
        · exact h'.2.2
        · rw [e1] at h'; cases h'.1
      subst exy
      rw [if_pos e1] at h
      by_cases e2 : cstr x z = 0
      · rw [if_pos e2] at g ⊢
        exact clist_trans a b c h g
      · rw [if_neg e2] at g ⊢
        exact g
    · rw [if_neg e1] at h
      by_cases e2 : cstr y z = 0
      · have eyz : y = z := by
          rcases cstr_is y z with h' | h' | h'
          · rw [e2] at h'; cases h'.1
          · exact h'.2.2
          · rw [e2] at h'; cases h'.1
        subst eyz
        rw [if_neg (by rw [h]; decide), h]
      · rw [if_neg e2] at g
        have := cstr_trans h g
        rw [if_neg (by rw [this]; decide), this]
/-- Keys. -/
def ckey (t : Int) (d : List ByteArray) (t' : Int) (d' : List ByteArray) : Int := if t < t' then -1 else if t' < t then 1 else clist d d'
theorem ckey_is (t : Int) (d : List ByteArray) (t' : Int) (d' : List ByteArray) : (ckey t d t' d' = -1 ∧ ckey t' d' t d = 1 ∧ ¬ (t = t' ∧ d = d')) ∨ (ckey t d t' d' = 0 ∧ ckey t' d' t d = 0 ∧ t = t' ∧ d = d') ∨ (ckey t d t' d' = 1 ∧ ckey t' d' t d = -1 ∧ ¬ (t = t' ∧ d = d')) := by
  unfold ckey
  by_cases h1 : t < t'
  · exact .inl ⟨if_pos h1, by rw [if_neg (by omega), if_pos h1], by omega⟩
  · by_cases h2 : t' < t
    · exact .inr (.inr ⟨by rw [if_neg h1, if_pos h2], if_pos h2, by omega⟩)
    · have e : t = t' := by omega
      subst e
      rw [if_neg h1, if_neg h1, if_neg h1, if_neg h1]
      rcases clist_is d d' with ⟨g1, g2, g3⟩ | ⟨g1, g2, g3⟩ | ⟨g1, g2, g3⟩
      · exact .inl ⟨g1, g2, fun h => g3 h.2⟩
      · exact .inr (.inl ⟨g1, g2, rfl, g3⟩)
      · exact .inr (.inr ⟨g1, g2, fun h => g3 h.2⟩)
theorem ckey_trans {t t' t'' : Int} {d d' d'' : List ByteArray} (h : ckey t d t' d' = -1) (g : ckey t' d' t'' d'' = -1) : ckey t d t'' d'' = -1 := by
  unfold ckey at *
  split at h
  · split at g
    · rw [if_pos (by omega)]
    · split at g
      · cases g
      · rw [if_pos (by omega)]
  · split at h
    · cases h
    · split at g
      · rw [if_pos (by omega)]
      · split at g
        · cases g
        · rw [if_neg (by omega), if_neg (by omega)]
          exact clist_trans _ _ _ h g
/-- An order out of keys. -/
theorem swo_key {α : Type} (t : α → Int) (d : α → List ByteArray) : Swo (fun a b : α => decide (ckey (t a) (d a) (t b) (d b) < 0)) where
  asym a b h := by
    have h : ckey (t a) (d a) (t b) (d b) < 0 := of_decide_eq_true h
    rcases ckey_is (t a) (d a) (t b) (d b) with h' | h' | h' <;> exact decide_eq_false (by omega)
  ntr a b c h g := by
    have h : ¬ ckey (t b) (d b) (t a) (d a) < 0 := of_decide_eq_false h
    have g : ¬ ckey (t c) (d c) (t b) (d b) < 0 := of_decide_eq_false g
    refine decide_eq_false ?_
    rcases ckey_is (t a) (d a) (t b) (d b) with h1 | h1 | h1
    · rcases ckey_is (t b) (d b) (t c) (d c) with h2 | h2 | h2
      · have := ckey_trans h1.1 h2.1
        rcases ckey_is (t a) (d a) (t c) (d c) with h3 | h3 | h3 <;> omega
      · rw [← h2.2.2.1, ← h2.2.2.2]; exact h
      · omega
    · rw [h1.2.2.1, h1.2.2.2]; exact g
    · omega
end Go.Key
end
section
namespace Go.Proofs.Ythihbgpaoldbjaa
open Go.Vc
set_option maxRecDepth 100000
variable (Q : Post) (ds : List Deferred) (σ : Env) (w : World)
/-! 14 columbary/columbaryref13.Fold (params #[25], results #[(.tmp 2), (.tmp 3)], 94 slots) -/
def W14_0 : List Nat := [2, 3, 4, 5, 6, 7, 8, 9, 10, 11, 12, 13, 14, 15, 16, 17, 18, 19, 20, 21, 22, 23, 24, 25, 26, 27, 28, 29, 30, 31, 32, 33, 34, 35, 36, 37, 38, 39, 40, 41, 42, 43, 44, 45, 46, 47, 48, 49, 50, 51, 52, 53, 54, 55, 56, 57, 58, 59, 60, 61, 62, 63, 64, 65, 66, 67, 68, 69, 70, 71, 72, 73, 74, 75, 76, 77, 78, 79, 80, 81, 82, 83, 84, 85, 86, 87, 88, 89, 90, 91, 92]
@[push_cast] theorem W14_0_def : W14_0 = [2, 3, 4, 5, 6, 7, 8, 9, 10, 11, 12, 13, 14, 15, 16, 17, 18, 19, 20, 21, 22, 23, 24, 25, 26, 27, 28, 29, 30, 31, 32, 33, 34, 35, 36, 37, 38, 39, 40, 41, 42, 43, 44, 45, 46, 47, 48, 49, 50, 51, 52, 53, 54, 55, 56, 57, 58, 59, 60, 61, 62, 63, 64, 65, 66, 67, 68, 69, 70, 71, 72, 73, 74, 75, 76, 77, 78, 79, 80, 81, 82, 83, 84, 85, 86, 87, 88, 89, 90, 91, 92] := mk_eq rfl
def W14_1 : List Nat := [6, 7, 20, 21, 22, 23, 24, 25, 26, 27, 28, 29, 30, 31, 32, 33, 34, 35, 36, 37, 38]
@[push_cast] theorem W14_1_def : W14_1 = [6, 7, 20, 21, 22, 23, 24, 25, 26, 27, 28, 29, 30, 31, 32, 33, 34, 35, 36, 37, 38] := mk_eq rfl
def r14_0 : List VOp :=
  [⟨some 2, .assign (.const (.slice none 0 0)), 25, none⟩,
   ⟨some 3, .assign (.const (.int .i64 0)), 28, none⟩]
def r14_1 : List VOp :=
  [⟨some 4, .assign (.const (.slice none 0 0)), 25, none⟩]
def r14_2 : List VOp :=
  [⟨some 5, .assign (.const (.int .i64 0)), 3, none⟩]
def r14_3 : List VOp :=
  [mv 14 5 3,
   mv 15 0 25,
   ⟨some 16, .call ⟨.builtin .len, #[.tmp 15], #[25]⟩, 3, none⟩,
   ⟨some 17, .binOp .lss 3 (.tmp 14) (.tmp 16) 3, 4, none⟩]
def r14_5 : List VOp :=
  [⟨some 6, .assign (.const (.int .i64 0)), 3, none⟩]
def r14_6 : List VOp :=
  [⟨some 7, .assign (.const (.bool true)), 4, none⟩]
def r14_7 : List VOp :=
  [mv 20 6 3,
   mv 21 4 25,
   ⟨some 22, .call ⟨.builtin .len, #[.tmp 21], #[25]⟩, 3, none⟩,
   ⟨some 23, .binOp .lss 3 (.tmp 20) (.tmp 22) 3, 4, none⟩,
   mv 24 23 4,
   ⟨some 25, .move (.tmp 7), 4, some (24, true)⟩,
   ⟨some 26, .pick (.tmp 24) (.tmp 25) (.const (.bool false)), 4, none⟩]
def r14_8 : List VOp :=
  [mv 27 4 25,
   mv 28 6 3,
   iad 29 25 27 28,
   lda 30 35 29,
   mv 31 0 25,
   mv 32 5 3,
   iad 33 25 31 32,
   lda 34 35 33,
   ⟨some 35, .call ⟨.value (.func 36), #[.tmp 30, .tmp 34], #[35, 35]⟩, 4, none⟩,
   asg 7 35 4]
def r14_9 : List VOp :=
  [mv 36 7 4]
def r14_10 : List VOp :=
  [mv 37 6 3,
   ⟨some 38, .binOp .add 3 (.tmp 37) (.const (.int .i64 1)) 3, 3, none⟩,
   asg 6 38 3]
def r14_11 : List VOp :=
  [mv 39 0 25,
   mv 40 5 3,
   iad 41 25 39 40,
   lda 42 35 41,
   ⟨some 8, .alloc 35, 0, none⟩,
   ⟨none, .store 35 (.tmp 8) (.tmp 42), 0, none⟩]
def r14_12 : List VOp :=
  [mv 43 6 3,
   asg 9 43 3]
def r14_13 : List VOp :=
  [mv 44 6 3,
   mv 45 4 25,
   ⟨some 46, .call ⟨.builtin .len, #[.tmp 45], #[25]⟩, 3, none⟩,
   ⟨some 47, .binOp .lss 3 (.tmp 44) (.tmp 46) 3, 4, none⟩,
   mv 48 47 4,
   ⟨some 49, .move (.tmp 4), 25, some (48, true)⟩,
   ⟨some 50, .move (.tmp 6), 3, some (48, true)⟩,
   ⟨some 51, .indexAddr 25 (.tmp 49) (.tmp 50), 0, some (48, true)⟩,
   ⟨some 52, .load 35 (.tmp 51), 35, some (48, true)⟩,
   ⟨some 53, .move (.tmp 0), 25, some (48, true)⟩,
   ⟨some 54, .move (.tmp 5), 3, some (48, true)⟩,
   ⟨some 55, .indexAddr 25 (.tmp 53) (.tmp 54), 0, some (48, true)⟩,
   ⟨some 56, .load 35 (.tmp 55), 35, some (48, true)⟩,
   ⟨some 57, .call ⟨.value (.func 45), #[.tmp 52, .tmp 56], #[35, 35]⟩, 4, some (48, true)⟩,
   ⟨some 58, .pick (.tmp 48) (.tmp 57) (.const (.bool false)), 4, none⟩,
   asg 10 58 4]
def r14_14 : List VOp :=
  [mv 59 10 4]
def r14_15 : List VOp :=
  [mv 61 4 25,
   mv 62 6 3,
   iad 63 25 61 62,
   lda 64 35 63,
   mv 65 0 25,
   mv 66 5 3,
   iad 67 25 65 66,
   lda 68 35 67,
   ⟨some 69, .call ⟨.value (.func 37), #[.tmp 64, .tmp 68], #[35, 35]⟩, 50, none⟩,
   mv 60 69 50,
   ext 70 60 0 35,
   ext 71 60 1 28,
   ⟨some 11, .alloc 35, 0, none⟩,
   ⟨none, .store 35 (.tmp 11) (.tmp 70), 0, none⟩,
   asg 12 71 28]
def r14_16 : List VOp :=
  [mv 72 12 28,
   ⟨some 73, .binOp .neq 28 (.tmp 72) (.const (.int .i64 0)) 28, 4, none⟩]
def r14_17 : List VOp :=
  [mv 74 12 28,
   ⟨some 2, .assign (.const (.slice none 0 0)), 25, none⟩,
   asg 3 74 28]
def r14_18 : List VOp :=
  [lda 75 35 11,
   ⟨none, .store 35 (.tmp 8) (.tmp 75), 0, none⟩]
def r14_19 : List VOp :=
  [mv 76 6 3,
   ⟨some 77, .binOp .add 3 (.tmp 76) (.const (.int .i64 1)) 3, 3, none⟩,
   asg 9 77 3]
def r14_20 : List VOp :=
  [⟨some 78, .buildSlice 25 0 #[], 25, none⟩,
   mv 79 4 25,
   mv 80 6 3,
   ⟨some 81, .slice 25 (.tmp 79) none (some (.tmp 80)) none, 25, none⟩,
   ⟨some 82, .call ⟨.builtin .append, #[.tmp 78, .tmp 81], #[25, 25]⟩, 25, none⟩,
   asg 13 82 25]
def r14_21 : List VOp :=
  [mv 83 13 25,
   lda 84 35 8,
   ⟨some 85, .buildSlice 25 1 #[(0, (.tmp 84))], 25, none⟩,
   ⟨some 86, .call ⟨.builtin .append, #[.tmp 83, .tmp 85], #[25, 25]⟩, 25, none⟩,
   asg 13 86 25]
def r14_22 : List VOp :=
  [mv 87 13 25,
   mv 88 4 25,
   mv 89 9 3,
   ⟨some 90, .slice 25 (.tmp 88) (some (.tmp 89)) none none, 25, none⟩,
   ⟨some 91, .call ⟨.builtin .append, #[.tmp 87, .tmp 90], #[25, 25]⟩, 25, none⟩,
   asg 13 91 25]
def r14_23 : List VOp :=
  [mv 92 13 25,
   asg 4 92 25]
def r14_4 : List VOp :=
  [mv 18 5 3,
   ⟨some 19, .binOp .add 3 (.tmp 18) (.const (.int .i64 1)) 3, 3, none⟩,
   asg 5 19 3]
def r14_24 : List VOp :=
  [mv 93 4 25,
   asg 2 93 25,
   ⟨some 3, .assign (.const (.int .i64 0)), 28, none⟩]
def B14 : VC :=
  (.seq (.region r14_0) (.seq (.region r14_1) (.seq (.seq (.region r14_2) (.block 0 (.loop (.seq (.seq (.region r14_3) (.cond (.tmp 17) .skip (.exit 0))) (.seq (.block 1 (.seq (.region r14_5) (.seq (.region r14_6) (.seq (.block 2 (.loop (.seq (.seq (.region r14_7) (.cond (.tmp 26) .skip (.exit 2))) (.block 3 (.seq (.draw r14_8 3) (.seq (.region r14_9) (.cond (.tmp 36) (.region r14_10) .skip))))))) (.seq (.region r14_11) (.seq (.region r14_12) (.seq (.draw r14_13 4) (.seq (.seq (.region r14_14) (.cond (.tmp 59) (.seq (.drawS r14_15 2 [71]) (.seq (.seq (.region r14_16) (.cond (.tmp 73) (.seq (.region r14_17) .ret) .skip)) (.seq (.region r14_18) (.region r14_19)))) .skip)) (.seq (.region r14_20) (.seq (.region r14_21) (.seq (.region r14_22) (.region r14_23)))))))))))) (.region r14_4)))))) (.seq (.region r14_24) .ret))))
theorem code14 : ∃ c, Try.f14.body = some c ∧ abs Try.f14.ntmps c = B14 := ⟨_, rfl, by kernel_rfl⟩
theorem hb14 : HasBody Try.prog 14 := hasBody_of Try.func14 (by kernel_rfl)
theorem res14 : Try.f14.results = #[(.tmp 2), (.tmp 3)] := rfl
theorem enter14 {w : World} {R : Value → World → Prop} (x0 : Value) (h : vc Try.prog B14 (retK Try.prog #[(.tmp 2), (.tmp 3)] R) [] (initEnv [x0] 0) w) : FnC Try.prog 14 #[x0] w R := by
  obtain ⟨c, h1, h2⟩ := code14
  exact hb14.fn (ret_of_vc mixed Try.func14 h1 (Nat.le_of_ble_eq_true rfl) B14 h2 h)
@[push_cast] theorem vr14_0 : VR r14_0 [⟨some 2, .assign (.const (.slice none 0 0)), 25, none⟩, ⟨some 3, .assign (.const (.int .i64 0)), 28, none⟩] := vR rfl
@[push_cast] theorem vr14_1 : VR r14_1 [⟨some 4, .assign (.const (.slice none 0 0)), 25, none⟩] := vR rfl
@[push_cast] theorem vr14_2 : VR r14_2 [⟨some 5, .assign (.const (.int .i64 0)), 3, none⟩] := vR rfl
@[push_cast] theorem vr14_3 : VR r14_3 [⟨some 14, .move (.tmp 5), 3, none⟩, ⟨some 15, .move (.tmp 0), 25, none⟩, ⟨some 16, .call ⟨.builtin .len, #[.tmp 15], #[25]⟩, 3, none⟩, ⟨some 17, .binOp .lss 3 (.tmp 14) (.tmp 16) 3, 4, none⟩] := vR rfl
@[push_cast] theorem vr14_5 : VR r14_5 [⟨some 6, .assign (.const (.int .i64 0)), 3, none⟩] := vR rfl
@[push_cast] theorem vr14_6 : VR r14_6 [⟨some 7, .assign (.const (.bool true)), 4, none⟩] := vR rfl
@[push_cast] theorem vr14_7 : VR r14_7 [⟨some 20, .move (.tmp 6), 3, none⟩, ⟨some 21, .move (.tmp 4), 25, none⟩, ⟨some 22, .call ⟨.builtin .len, #[.tmp 21], #[25]⟩, 3, none⟩, ⟨some 23, .binOp .lss 3 (.tmp 20) (.tmp 22) 3, 4, none⟩, ⟨some 24, .move (.tmp 23), 4, none⟩, ⟨some 25, .move (.tmp 7), 4, some (24, true)⟩, ⟨some 26, .pick (.tmp 24) (.tmp 25) (.const (.bool false)), 4, none⟩] := vR rfl
@[push_cast] theorem vr14_8 : vc Try.prog (.draw r14_8 3) Q ds σ w = drawn Try.prog [(⟨some 27, .move (.tmp 4), 25, none⟩, [4]), (⟨some 28, .move (.tmp 6), 3, none⟩, [6]), (⟨some 29, .indexAddr 25 (.tmp 27) (.tmp 28), 0, none⟩, [27, 28]), (⟨some 30, .load 35 (.tmp 29), 35, none⟩, [29]), (⟨some 31, .move (.tmp 0), 25, none⟩, [0]), (⟨some 32, .move (.tmp 5), 3, none⟩, [5]), (⟨some 33, .indexAddr 25 (.tmp 31) (.tmp 32), 0, none⟩, [31, 32]), (⟨some 34, .load 35 (.tmp 33), 35, none⟩, [33]), (⟨some 35, .call ⟨.value (.func 36), #[.tmp 30, .tmp 34], #[35, 35]⟩, 4, none⟩, [30, 34]), (⟨some 7, .assign (.tmp 35), 4, none⟩, [35])] 3 (Q .normal ds) σ w := mk_eq rfl
@[push_cast] theorem vr14_9 : VR r14_9 [⟨some 36, .move (.tmp 7), 4, none⟩] := vR rfl
@[push_cast] theorem vr14_10 : VR r14_10 [⟨some 37, .move (.tmp 6), 3, none⟩, ⟨some 38, .binOp .add 3 (.tmp 37) (.const (.int .i64 1)) 3, 3, none⟩, ⟨some 6, .assign (.tmp 38), 3, none⟩] := vR rfl
@[push_cast] theorem vr14_11 : VR r14_11 [⟨some 39, .move (.tmp 0), 25, none⟩, ⟨some 40, .move (.tmp 5), 3, none⟩, ⟨some 41, .indexAddr 25 (.tmp 39) (.tmp 40), 0, none⟩, ⟨some 42, .load 35 (.tmp 41), 35, none⟩, ⟨some 8, .alloc 35, 0, none⟩, ⟨none, .store 35 (.tmp 8) (.tmp 42), 0, none⟩] := vR rfl
@[push_cast] theorem vr14_12 : VR r14_12 [⟨some 43, .move (.tmp 6), 3, none⟩, ⟨some 9, .assign (.tmp 43), 3, none⟩] := vR rfl
@[push_cast] theorem vr14_13 : vc Try.prog (.draw r14_13 4) Q ds σ w = drawn Try.prog [(⟨some 44, .move (.tmp 6), 3, none⟩, [6]), (⟨some 45, .move (.tmp 4), 25, none⟩, [4]), (⟨some 46, .call ⟨.builtin .len, #[.tmp 45], #[25]⟩, 3, none⟩, [45]), (⟨some 47, .binOp .lss 3 (.tmp 44) (.tmp 46) 3, 4, none⟩, [44, 46]), (⟨some 48, .move (.tmp 47), 4, none⟩, [47]), (⟨some 49, .move (.tmp 4), 25, some (48, true)⟩, [4, 48]), (⟨some 50, .move (.tmp 6), 3, some (48, true)⟩, [6, 48]), (⟨some 51, .indexAddr 25 (.tmp 49) (.tmp 50), 0, some (48, true)⟩, [49, 50, 48]), (⟨some 52, .load 35 (.tmp 51), 35, some (48, true)⟩, [51, 48]), (⟨some 53, .move (.tmp 0), 25, some (48, true)⟩, [0, 48]), (⟨some 54, .move (.tmp 5), 3, some (48, true)⟩, [5, 48]), (⟨some 55, .indexAddr 25 (.tmp 53) (.tmp 54), 0, some (48, true)⟩, [53, 54, 48]), (⟨some 56, .load 35 (.tmp 55), 35, some (48, true)⟩, [55, 48]), (⟨some 57, .call ⟨.value (.func 45), #[.tmp 52, .tmp 56], #[35, 35]⟩, 4, some (48, true)⟩, [52, 56, 48]), (⟨some 58, .pick (.tmp 48) (.tmp 57) (.const (.bool false)), 4, none⟩, [48, 57]), (⟨some 10, .assign (.tmp 58), 4, none⟩, [58])] 4 (Q .normal ds) σ w := mk_eq rfl
@[push_cast] theorem vr14_14 : VR r14_14 [⟨some 59, .move (.tmp 10), 4, none⟩] := vR rfl
@[push_cast] theorem vr14_15 : vc Try.prog (.drawS r14_15 2 [71]) Q ds σ w = drawnS Try.prog [(⟨some 61, .move (.tmp 4), 25, none⟩, [4]), (⟨some 62, .move (.tmp 6), 3, none⟩, [6]), (⟨some 63, .indexAddr 25 (.tmp 61) (.tmp 62), 0, none⟩, [61, 62]), (⟨some 64, .load 35 (.tmp 63), 35, none⟩, [63]), (⟨some 65, .move (.tmp 0), 25, none⟩, [0]), (⟨some 66, .move (.tmp 5), 3, none⟩, [5]), (⟨some 67, .indexAddr 25 (.tmp 65) (.tmp 66), 0, none⟩, [65, 66]), (⟨some 68, .load 35 (.tmp 67), 35, none⟩, [67]), (⟨some 69, .call ⟨.value (.func 37), #[.tmp 64, .tmp 68], #[35, 35]⟩, 50, none⟩, [64, 68]), (⟨some 60, .move (.tmp 69), 50, none⟩, [69]), (⟨some 70, .extract (.tmp 60) 0, 35, none⟩, [60]), (⟨some 71, .extract (.tmp 60) 1, 28, none⟩, [60]), (⟨some 11, .alloc 35, 0, none⟩, []), (⟨none, .store 35 (.tmp 11) (.tmp 70), 0, none⟩, [11, 70]), (⟨some 12, .assign (.tmp 71), 28, none⟩, [71])] 2 [71] (Q .normal ds) σ w := mk_eq rfl
@[push_cast] theorem vr14_16 : VR r14_16 [⟨some 72, .move (.tmp 12), 28, none⟩, ⟨some 73, .binOp .neq 28 (.tmp 72) (.const (.int .i64 0)) 28, 4, none⟩] := vR rfl
@[push_cast] theorem vr14_17 : VR r14_17 [⟨some 74, .move (.tmp 12), 28, none⟩, ⟨some 2, .assign (.const (.slice none 0 0)), 25, none⟩, ⟨some 3, .assign (.tmp 74), 28, none⟩] := vR rfl
@[push_cast] theorem vr14_18 : VR r14_18 [⟨some 75, .load 35 (.tmp 11), 35, none⟩, ⟨none, .store 35 (.tmp 8) (.tmp 75), 0, none⟩] := vR rfl
@[push_cast] theorem vr14_19 : VR r14_19 [⟨some 76, .move (.tmp 6), 3, none⟩, ⟨some 77, .binOp .add 3 (.tmp 76) (.const (.int .i64 1)) 3, 3, none⟩, ⟨some 9, .assign (.tmp 77), 3, none⟩] := vR rfl
@[push_cast] theorem vr14_20 : VR r14_20 [⟨some 78, .buildSlice 25 0 #[], 25, none⟩, ⟨some 79, .move (.tmp 4), 25, none⟩, ⟨some 80, .move (.tmp 6), 3, none⟩, ⟨some 81, .slice 25 (.tmp 79) none (some (.tmp 80)) none, 25, none⟩, ⟨some 82, .call ⟨.builtin .append, #[.tmp 78, .tmp 81], #[25, 25]⟩, 25, none⟩, ⟨some 13, .assign (.tmp 82), 25, none⟩] := vR rfl
@[push_cast] theorem vr14_21 : VR r14_21 [⟨some 83, .move (.tmp 13), 25, none⟩, ⟨some 84, .load 35 (.tmp 8), 35, none⟩, ⟨some 85, .buildSlice 25 1 #[(0, (.tmp 84))], 25, none⟩, ⟨some 86, .call ⟨.builtin .append, #[.tmp 83, .tmp 85], #[25, 25]⟩, 25, none⟩, ⟨some 13, .assign (.tmp 86), 25, none⟩] := vR rfl
@[push_cast] theorem vr14_22 : VR r14_22 [⟨some 87, .move (.tmp 13), 25, none⟩, ⟨some 88, .move (.tmp 4), 25, none⟩, ⟨some 89, .move (.tmp 9), 3, none⟩, ⟨some 90, .slice 25 (.tmp 88) (some (.tmp 89)) none none, 25, none⟩, ⟨some 91, .call ⟨.builtin .append, #[.tmp 87, .tmp 90], #[25, 25]⟩, 25, none⟩, ⟨some 13, .assign (.tmp 91), 25, none⟩] := vR rfl
@[push_cast] theorem vr14_23 : VR r14_23 [⟨some 92, .move (.tmp 13), 25, none⟩, ⟨some 4, .assign (.tmp 92), 25, none⟩] := vR rfl
@[push_cast] theorem vr14_4 : VR r14_4 [⟨some 18, .move (.tmp 5), 3, none⟩, ⟨some 19, .binOp .add 3 (.tmp 18) (.const (.int .i64 1)) 3, 3, none⟩, ⟨some 5, .assign (.tmp 19), 3, none⟩] := vR rfl
@[push_cast] theorem vr14_24 : VR r14_24 [⟨some 93, .move (.tmp 4), 25, none⟩, ⟨some 2, .assign (.tmp 93), 25, none⟩, ⟨some 3, .assign (.const (.int .i64 0)), 28, none⟩] := vR rfl
/-! 15 columbary/columbaryref13.Same (params #[25, 25], results #[(.tmp 4)], 29 slots) -/
def W15_0 : List Nat := [4, 5, 6, 12, 13, 14, 15, 16, 17, 18, 19, 20, 21, 22, 23, 24, 25, 26, 27, 28]
@[push_cast] theorem W15_0_def : W15_0 = [4, 5, 6, 12, 13, 14, 15, 16, 17, 18, 19, 20, 21, 22, 23, 24, 25, 26, 27, 28] := mk_eq rfl
def r15_0 : List VOp :=
  [⟨some 4, .assign (.const (.bool false)), 4, none⟩]
def r15_1 : List VOp :=
  [mv 7 0 25,
   ⟨some 8, .call ⟨.builtin .len, #[.tmp 7], #[25]⟩, 3, none⟩,
   mv 9 1 25,
   ⟨some 10, .call ⟨.builtin .len, #[.tmp 9], #[25]⟩, 3, none⟩,
   ⟨some 11, .binOp .neq 3 (.tmp 8) (.tmp 10) 3, 4, none⟩]
def r15_2 : List VOp :=
  [⟨some 4, .assign (.const (.bool false)), 4, none⟩]
def r15_3 : List VOp :=
  [⟨some 5, .assign (.const (.int .i64 0)), 3, none⟩]
def r15_4 : List VOp :=
  [mv 12 5 3,
   mv 13 0 25,
   ⟨some 14, .call ⟨.builtin .len, #[.tmp 13], #[25]⟩, 3, none⟩,
   ⟨some 15, .binOp .lss 3 (.tmp 12) (.tmp 14) 3, 4, none⟩]
def r15_6 : List VOp :=
  [mv 18 0 25,
   mv 19 5 3,
   iad 20 25 18 19,
   lda 21 35 20,
   mv 22 1 25,
   mv 23 5 3,
   iad 24 25 22 23,
   lda 25 35 24,
   ⟨some 26, .call ⟨.value (.func 29), #[.tmp 21, .tmp 25], #[35, 35]⟩, 4, none⟩,
   asg 6 26 4]
def r15_7 : List VOp :=
  [mv 27 6 4,
   ⟨some 28, .unOp .not 4 (.tmp 27), 4, none⟩]
def r15_8 : List VOp :=
  [⟨some 4, .assign (.const (.bool false)), 4, none⟩]
def r15_5 : List VOp :=
  [mv 16 5 3,
   ⟨some 17, .binOp .add 3 (.tmp 16) (.const (.int .i64 1)) 3, 3, none⟩,
   asg 5 17 3]
def r15_9 : List VOp :=
  [⟨some 4, .assign (.const (.bool true)), 4, none⟩]
def B15 : VC :=
  (.seq (.region r15_0) (.seq (.seq (.region r15_1) (.cond (.tmp 11) (.seq (.region r15_2) .ret) .skip)) (.seq (.seq (.region r15_3) (.block 0 (.loop (.seq (.seq (.region r15_4) (.cond (.tmp 15) .skip (.exit 0))) (.seq (.block 1 (.seq (.draw r15_6 3) (.seq (.region r15_7) (.cond (.tmp 28) (.seq (.region r15_8) .ret) .skip)))) (.region r15_5)))))) (.seq (.region r15_9) .ret))))
theorem code15 : ∃ c, Try.f15.body = some c ∧ abs Try.f15.ntmps c = B15 := ⟨_, rfl, by kernel_rfl⟩
theorem hb15 : HasBody Try.prog 15 := hasBody_of Try.func15 (by kernel_rfl)
theorem res15 : Try.f15.results = #[(.tmp 4)] := rfl
theorem enter15 {w : World} {R : Value → World → Prop} (x0 x1 : Value) (h : vc Try.prog B15 (retK Try.prog #[(.tmp 4)] R) [] (initEnv [x0, x1] 0) w) : FnC Try.prog 15 #[x0, x1] w R := by
  obtain ⟨c, h1, h2⟩ := code15
  exact hb15.fn (ret_of_vc mixed Try.func15 h1 (Nat.le_of_ble_eq_true rfl) B15 h2 h)
@[push_cast] theorem vr15_0 : VR r15_0 [⟨some 4, .assign (.const (.bool false)), 4, none⟩] := vR rfl
@[push_cast] theorem vr15_1 : VR r15_1 [⟨some 7, .move (.tmp 0), 25, none⟩, ⟨some 8, .call ⟨.builtin .len, #[.tmp 7], #[25]⟩, 3, none⟩, ⟨some 9, .move (.tmp 1), 25, none⟩, ⟨some 10, .call ⟨.builtin .len, #[.tmp 9], #[25]⟩, 3, none⟩, ⟨some 11, .binOp .neq 3 (.tmp 8) (.tmp 10) 3, 4, none⟩] := vR rfl
@[push_cast] theorem vr15_2 : VR r15_2 [⟨some 4, .assign (.const (.bool false)), 4, none⟩] := vR rfl
@[push_cast] theorem vr15_3 : VR r15_3 [⟨some 5, .assign (.const (.int .i64 0)), 3, none⟩] := vR rfl
@[push_cast] theorem vr15_4 : VR r15_4 [⟨some 12, .move (.tmp 5), 3, none⟩, ⟨some 13, .move (.tmp 0), 25, none⟩, ⟨some 14, .call ⟨.builtin .len, #[.tmp 13], #[25]⟩, 3, none⟩, ⟨some 15, .binOp .lss 3 (.tmp 12) (.tmp 14) 3, 4, none⟩] := vR rfl
@[push_cast] theorem vr15_6 : vc Try.prog (.draw r15_6 3) Q ds σ w = drawn Try.prog [(⟨some 18, .move (.tmp 0), 25, none⟩, [0]), (⟨some 19, .move (.tmp 5), 3, none⟩, [5]), (⟨some 20, .indexAddr 25 (.tmp 18) (.tmp 19), 0, none⟩, [18, 19]), (⟨some 21, .load 35 (.tmp 20), 35, none⟩, [20]), (⟨some 22, .move (.tmp 1), 25, none⟩, [1]), (⟨some 23, .move (.tmp 5), 3, none⟩, [5]), (⟨some 24, .indexAddr 25 (.tmp 22) (.tmp 23), 0, none⟩, [22, 23]), (⟨some 25, .load 35 (.tmp 24), 35, none⟩, [24]), (⟨some 26, .call ⟨.value (.func 29), #[.tmp 21, .tmp 25], #[35, 35]⟩, 4, none⟩, [21, 25]), (⟨some 6, .assign (.tmp 26), 4, none⟩, [26])] 3 (Q .normal ds) σ w := mk_eq rfl
@[push_cast] theorem vr15_7 : VR r15_7 [⟨some 27, .move (.tmp 6), 4, none⟩, ⟨some 28, .unOp .not 4 (.tmp 27), 4, none⟩] := vR rfl
@[push_cast] theorem vr15_8 : VR r15_8 [⟨some 4, .assign (.const (.bool false)), 4, none⟩] := vR rfl
@[push_cast] theorem vr15_5 : VR r15_5 [⟨some 16, .move (.tmp 5), 3, none⟩, ⟨some 17, .binOp .add 3 (.tmp 16) (.const (.int .i64 1)) 3, 3, none⟩, ⟨some 5, .assign (.tmp 17), 3, none⟩] := vR rfl
@[push_cast] theorem vr15_9 : VR r15_9 [⟨some 4, .assign (.const (.bool true)), 4, none⟩] := vR rfl
/-! 21 columbary/columbaryref03.Texts (params #[22, 22], results #[(.tmp 4)], 26 slots) -/
def W21_0 : List Nat := [4, 5, 11, 12, 13, 14, 15, 16, 17, 18, 19, 20, 21, 22, 23, 24, 25]
@[push_cast] theorem W21_0_def : W21_0 = [4, 5, 11, 12, 13, 14, 15, 16, 17, 18, 19, 20, 21, 22, 23, 24, 25] := mk_eq rfl
def r21_0 : List VOp :=
  [⟨some 4, .assign (.const (.bool false)), 4, none⟩]
def r21_1 : List VOp :=
  [mv 6 0 22,
   ⟨some 7, .call ⟨.builtin .len, #[.tmp 6], #[22]⟩, 3, none⟩,
   mv 8 1 22,
   ⟨some 9, .call ⟨.builtin .len, #[.tmp 8], #[22]⟩, 3, none⟩,
   ⟨some 10, .binOp .neq 3 (.tmp 7) (.tmp 9) 3, 4, none⟩]
def r21_2 : List VOp :=
  [⟨some 4, .assign (.const (.bool false)), 4, none⟩]
def r21_3 : List VOp :=
  [⟨some 5, .assign (.const (.int .i64 0)), 3, none⟩]
def r21_4 : List VOp :=
  [mv 11 5 3,
   mv 12 0 22,
   ⟨some 13, .call ⟨.builtin .len, #[.tmp 12], #[22]⟩, 3, none⟩,
   ⟨some 14, .binOp .lss 3 (.tmp 11) (.tmp 13) 3, 4, none⟩]
def r21_6 : List VOp :=
  [mv 17 0 22,
   mv 18 5 3,
   iad 19 22 17 18,
   lda 20 9 19,
   mv 21 1 22,
   mv 22 5 3,
   iad 23 22 21 22,
   lda 24 9 23,
   ⟨some 25, .binOp .neq 9 (.tmp 20) (.tmp 24) 9, 4, none⟩]
def r21_7 : List VOp :=
  [⟨some 4, .assign (.const (.bool false)), 4, none⟩]
def r21_5 : List VOp :=
  [mv 15 5 3,
   ⟨some 16, .binOp .add 3 (.tmp 15) (.const (.int .i64 1)) 3, 3, none⟩,
   asg 5 16 3]
def r21_8 : List VOp :=
  [⟨some 4, .assign (.const (.bool true)), 4, none⟩]
def B21 : VC :=
  (.seq (.region r21_0) (.seq (.seq (.region r21_1) (.cond (.tmp 10) (.seq (.region r21_2) .ret) .skip)) (.seq (.seq (.region r21_3) (.block 0 (.loop (.seq (.seq (.region r21_4) (.cond (.tmp 14) .skip (.exit 0))) (.seq (.block 1 (.seq (.draw r21_6 2) (.cond (.tmp 25) (.seq (.region r21_7) .ret) .skip))) (.region r21_5)))))) (.seq (.region r21_8) .ret))))
theorem code21 : ∃ c, Try.f21.body = some c ∧ abs Try.f21.ntmps c = B21 := ⟨_, rfl, by kernel_rfl⟩
theorem hb21 : HasBody Try.prog 21 := hasBody_of Try.func21 (by kernel_rfl)
theorem res21 : Try.f21.results = #[(.tmp 4)] := rfl
theorem enter21 {w : World} {R : Value → World → Prop} (x0 x1 : Value) (h : vc Try.prog B21 (retK Try.prog #[(.tmp 4)] R) [] (initEnv [x0, x1] 0) w) : FnC Try.prog 21 #[x0, x1] w R := by
  obtain ⟨c, h1, h2⟩ := code21
  exact hb21.fn (ret_of_vc mixed Try.func21 h1 (Nat.le_of_ble_eq_true rfl) B21 h2 h)
@[push_cast] theorem vr21_0 : VR r21_0 [⟨some 4, .assign (.const (.bool false)), 4, none⟩] := vR rfl
@[push_cast] theorem vr21_1 : VR r21_1 [⟨some 6, .move (.tmp 0), 22, none⟩, ⟨some 7, .call ⟨.builtin .len, #[.tmp 6], #[22]⟩, 3, none⟩, ⟨some 8, .move (.tmp 1), 22, none⟩, ⟨some 9, .call ⟨.builtin .len, #[.tmp 8], #[22]⟩, 3, none⟩, ⟨some 10, .binOp .neq 3 (.tmp 7) (.tmp 9) 3, 4, none⟩] := vR rfl
@[push_cast] theorem vr21_2 : VR r21_2 [⟨some 4, .assign (.const (.bool false)), 4, none⟩] := vR rfl
@[push_cast] theorem vr21_3 : VR r21_3 [⟨some 5, .assign (.const (.int .i64 0)), 3, none⟩] := vR rfl
@[push_cast] theorem vr21_4 : VR r21_4 [⟨some 11, .move (.tmp 5), 3, none⟩, ⟨some 12, .move (.tmp 0), 22, none⟩, ⟨some 13, .call ⟨.builtin .len, #[.tmp 12], #[22]⟩, 3, none⟩, ⟨some 14, .binOp .lss 3 (.tmp 11) (.tmp 13) 3, 4, none⟩] := vR rfl
@[push_cast] theorem vr21_6 : vc Try.prog (.draw r21_6 2) Q ds σ w = drawn Try.prog [(⟨some 17, .move (.tmp 0), 22, none⟩, [0]), (⟨some 18, .move (.tmp 5), 3, none⟩, [5]), (⟨some 19, .indexAddr 22 (.tmp 17) (.tmp 18), 0, none⟩, [17, 18]), (⟨some 20, .load 9 (.tmp 19), 9, none⟩, [19]), (⟨some 21, .move (.tmp 1), 22, none⟩, [1]), (⟨some 22, .move (.tmp 5), 3, none⟩, [5]), (⟨some 23, .indexAddr 22 (.tmp 21) (.tmp 22), 0, none⟩, [21, 22]), (⟨some 24, .load 9 (.tmp 23), 9, none⟩, [23]), (⟨some 25, .binOp .neq 9 (.tmp 20) (.tmp 24) 9, 4, none⟩, [20, 24])] 2 (Q .normal ds) σ w := mk_eq rfl
@[push_cast] theorem vr21_7 : VR r21_7 [⟨some 4, .assign (.const (.bool false)), 4, none⟩] := vR rfl
@[push_cast] theorem vr21_5 : VR r21_5 [⟨some 15, .move (.tmp 5), 3, none⟩, ⟨some 16, .binOp .add 3 (.tmp 15) (.const (.int .i64 1)) 3, 3, none⟩, ⟨some 5, .assign (.tmp 16), 3, none⟩] := vR rfl
@[push_cast] theorem vr21_8 : VR r21_8 [⟨some 4, .assign (.const (.bool true)), 4, none⟩] := vR rfl
/-! 28 columbary/columbaryref13.Right (params #[24, 35], results #[(.tmp 4)], 73 slots) -/
def W28_0 : List Nat := [4, 5, 6, 25, 26, 27, 28, 29, 30, 31, 32, 33, 34, 35, 36, 37, 38, 39]
@[push_cast] theorem W28_0_def : W28_0 = [4, 5, 6, 25, 26, 27, 28, 29, 30, 31, 32, 33, 34, 35, 36, 37, 38, 39] := mk_eq rfl
def W28_1 : List Nat := [4, 7, 8, 40, 41, 42, 43, 44, 45, 46, 47, 48, 49, 50, 51, 52, 53, 54]
@[push_cast] theorem W28_1_def : W28_1 = [4, 7, 8, 40, 41, 42, 43, 44, 45, 46, 47, 48, 49, 50, 51, 52, 53, 54] := mk_eq rfl
def r28_0 : List VOp :=
  [⟨some 2, .box 24 (.tmp 0), 0, none⟩,
   ⟨some 3, .box 35 (.tmp 1), 0, none⟩,
   ⟨some 4, .assign (.const (.bool false)), 4, none⟩]
def r28_1 : List VOp :=
  [fad 9 35 3 1,
   lda 10 22 9,
   ⟨some 11, .call ⟨.builtin .len, #[.tmp 10], #[22]⟩, 3, none⟩,
   fad 12 24 2 0,
   lda 13 22 12,
   ⟨some 14, .call ⟨.builtin .len, #[.tmp 13], #[22]⟩, 3, none⟩,
   ⟨some 15, .binOp .neq 3 (.tmp 11) (.tmp 14) 3, 4, none⟩,
   mv 16 15 4,
   ⟨some 17, .fieldAddr 35 (.tmp 3) 3, 0, some (16, false)⟩,
   ⟨some 18, .load 33 (.tmp 17), 33, some (16, false)⟩,
   ⟨some 19, .call ⟨.builtin .len, #[.tmp 18], #[33]⟩, 3, some (16, false)⟩,
   ⟨some 20, .fieldAddr 24 (.tmp 2) 1, 0, some (16, false)⟩,
   ⟨some 21, .load 22 (.tmp 20), 22, some (16, false)⟩,
   ⟨some 22, .call ⟨.builtin .len, #[.tmp 21], #[22]⟩, 3, some (16, false)⟩,
   ⟨some 23, .binOp .neq 3 (.tmp 19) (.tmp 22) 3, 4, some (16, false)⟩,
   ⟨some 24, .pick (.tmp 16) (.const (.bool true)) (.tmp 23), 4, none⟩]
def r28_2 : List VOp :=
  [⟨some 4, .assign (.const (.bool false)), 4, none⟩]
def r28_3 : List VOp :=
  [⟨some 5, .assign (.const (.int .i64 0)), 3, none⟩]
def r28_4 : List VOp :=
  [mv 25 5 3,
   fad 26 35 3 1,
   lda 27 22 26,
   ⟨some 28, .call ⟨.builtin .len, #[.tmp 27], #[22]⟩, 3, none⟩,
   ⟨some 29, .binOp .lss 3 (.tmp 25) (.tmp 28) 3, 4, none⟩]
def r28_6 : List VOp :=
  [fad 32 35 3 1,
   lda 33 22 32,
   mv 34 5 3,
   iad 35 22 33 34,
   lda 36 9 35,
   ⟨some 37, .call ⟨.value (.func 65), #[.tmp 36], #[9]⟩, 4, none⟩,
   asg 6 37 4]
def r28_7 : List VOp :=
  [mv 38 6 4,
   ⟨some 39, .unOp .not 4 (.tmp 38), 4, none⟩]
def r28_8 : List VOp :=
  [⟨some 4, .assign (.const (.bool false)), 4, none⟩]
def r28_5 : List VOp :=
  [mv 30 5 3,
   ⟨some 31, .binOp .add 3 (.tmp 30) (.const (.int .i64 1)) 3, 3, none⟩,
   asg 5 31 3]
def r28_9 : List VOp :=
  [⟨some 7, .assign (.const (.int .i64 0)), 3, none⟩]
def r28_10 : List VOp :=
  [mv 40 7 3,
   fad 41 35 3 3,
   lda 42 33 41,
   ⟨some 43, .call ⟨.builtin .len, #[.tmp 42], #[33]⟩, 3, none⟩,
   ⟨some 44, .binOp .lss 3 (.tmp 40) (.tmp 43) 3, 4, none⟩]
def r28_12 : List VOp :=
  [fad 47 35 3 3,
   lda 48 33 47,
   mv 49 7 3,
   iad 50 33 48 49,
   lda 51 64 50,
   ⟨some 52, .call ⟨.value (.func 66), #[.tmp 51], #[64]⟩, 4, none⟩,
   asg 8 52 4]
def r28_13 : List VOp :=
  [mv 53 8 4,
   ⟨some 54, .unOp .not 4 (.tmp 53), 4, none⟩]
def r28_14 : List VOp :=
  [⟨some 4, .assign (.const (.bool false)), 4, none⟩]
def r28_11 : List VOp :=
  [mv 45 7 3,
   ⟨some 46, .binOp .add 3 (.tmp 45) (.const (.int .i64 1)) 3, 3, none⟩,
   asg 7 46 3]
def r28_15 : List VOp :=
  [fad 55 35 3 0,
   lda 56 3 55,
   ⟨some 57, .binOp .geq 3 (.tmp 56) (.const (.int .i64 0)) 3, 4, none⟩,
   mv 58 57 4,
   ⟨some 59, .fieldAddr 35 (.tmp 3) 0, 0, some (58, true)⟩,
   ⟨some 60, .load 3 (.tmp 59), 3, some (58, true)⟩,
   ⟨some 61, .binOp .leq 3 (.tmp 60) (.const (.int .i64 1099511627776)) 3, 4, some (58, true)⟩,
   ⟨some 62, .pick (.tmp 58) (.tmp 61) (.const (.bool false)), 4, none⟩,
   mv 63 62 4,
   ⟨some 64, .fieldAddr 35 (.tmp 3) 2, 0, some (63, true)⟩,
   ⟨some 65, .load 3 (.tmp 64), 3, some (63, true)⟩,
   ⟨some 66, .binOp .geq 3 (.tmp 65) (.const (.int .i64 1)) 3, 4, some (63, true)⟩,
   ⟨some 67, .pick (.tmp 63) (.tmp 66) (.const (.bool false)), 4, none⟩,
   mv 68 67 4,
   ⟨some 69, .fieldAddr 35 (.tmp 3) 2, 0, some (68, true)⟩,
   ⟨some 70, .load 3 (.tmp 69), 3, some (68, true)⟩,
   ⟨some 71, .binOp .leq 3 (.tmp 70) (.const (.int .i64 1048576)) 3, 4, some (68, true)⟩,
   ⟨some 72, .pick (.tmp 68) (.tmp 71) (.const (.bool false)), 4, none⟩,
   asg 4 72 4]
def B28 : VC :=
  (.seq (.region r28_0) (.seq (.seq (.region r28_1) (.cond (.tmp 24) (.seq (.region r28_2) .ret) .skip)) (.seq (.seq (.region r28_3) (.block 0 (.loop (.seq (.seq (.region r28_4) (.cond (.tmp 29) .skip (.exit 0))) (.seq (.block 1 (.seq (.region r28_6) (.seq (.region r28_7) (.cond (.tmp 39) (.seq (.region r28_8) .ret) .skip)))) (.region r28_5)))))) (.seq (.seq (.region r28_9) (.block 2 (.loop (.seq (.seq (.region r28_10) (.cond (.tmp 44) .skip (.exit 2))) (.seq (.block 3 (.seq (.region r28_12) (.seq (.region r28_13) (.cond (.tmp 54) (.seq (.region r28_14) .ret) .skip)))) (.region r28_11)))))) (.seq (.region r28_15) .ret)))))
theorem code28 : ∃ c, Try.f28.body = some c ∧ abs Try.f28.ntmps c = B28 := ⟨_, rfl, by kernel_rfl⟩
theorem hb28 : HasBody Try.prog 28 := hasBody_of Try.func28 (by kernel_rfl)
theorem res28 : Try.f28.results = #[(.tmp 4)] := rfl
theorem enter28 {w : World} {R : Value → World → Prop} (x0 x1 : Value) (h : vc Try.prog B28 (retK Try.prog #[(.tmp 4)] R) [] (initEnv [x0, x1] 0) w) : FnC Try.prog 28 #[x0, x1] w R := by
  obtain ⟨c, h1, h2⟩ := code28
  exact hb28.fn (ret_of_vc mixed Try.func28 h1 (Nat.le_of_ble_eq_true rfl) B28 h2 h)
@[push_cast] theorem vr28_0 : VR r28_0 [⟨some 2, .box 24 (.tmp 0), 0, none⟩, ⟨some 3, .box 35 (.tmp 1), 0, none⟩, ⟨some 4, .assign (.const (.bool false)), 4, none⟩] := vR rfl
@[push_cast] theorem vr28_1 : VR r28_1 [⟨some 9, .fieldAddr 35 (.tmp 3) 1, 0, none⟩, ⟨some 10, .load 22 (.tmp 9), 22, none⟩, ⟨some 11, .call ⟨.builtin .len, #[.tmp 10], #[22]⟩, 3, none⟩, ⟨some 12, .fieldAddr 24 (.tmp 2) 0, 0, none⟩, ⟨some 13, .load 22 (.tmp 12), 22, none⟩, ⟨some 14, .call ⟨.builtin .len, #[.tmp 13], #[22]⟩, 3, none⟩, ⟨some 15, .binOp .neq 3 (.tmp 11) (.tmp 14) 3, 4, none⟩, ⟨some 16, .move (.tmp 15), 4, none⟩, ⟨some 17, .fieldAddr 35 (.tmp 3) 3, 0, some (16, false)⟩, ⟨some 18, .load 33 (.tmp 17), 33, some (16, false)⟩, ⟨some 19, .call ⟨.builtin .len, #[.tmp 18], #[33]⟩, 3, some (16, false)⟩, ⟨some 20, .fieldAddr 24 (.tmp 2) 1, 0, some (16, false)⟩, ⟨some 21, .load 22 (.tmp 20), 22, some (16, false)⟩, ⟨some 22, .call ⟨.builtin .len, #[.tmp 21], #[22]⟩, 3, some (16, false)⟩, ⟨some 23, .binOp .neq 3 (.tmp 19) (.tmp 22) 3, 4, some (16, false)⟩, ⟨some 24, .pick (.tmp 16) (.const (.bool true)) (.tmp 23), 4, none⟩] := vR rfl
@[push_cast] theorem vr28_2 : VR r28_2 [⟨some 4, .assign (.const (.bool false)), 4, none⟩] := vR rfl
@[push_cast] theorem vr28_3 : VR r28_3 [⟨some 5, .assign (.const (.int .i64 0)), 3, none⟩] := vR rfl
@[push_cast] theorem vr28_4 : VR r28_4 [⟨some 25, .move (.tmp 5), 3, none⟩, ⟨some 26, .fieldAddr 35 (.tmp 3) 1, 0, none⟩, ⟨some 27, .load 22 (.tmp 26), 22, none⟩, ⟨some 28, .call ⟨.builtin .len, #[.tmp 27], #[22]⟩, 3, none⟩, ⟨some 29, .binOp .lss 3 (.tmp 25) (.tmp 28) 3, 4, none⟩] := vR rfl
@[push_cast] theorem vr28_6 : VR r28_6 [⟨some 32, .fieldAddr 35 (.tmp 3) 1, 0, none⟩, ⟨some 33, .load 22 (.tmp 32), 22, none⟩, ⟨some 34, .move (.tmp 5), 3, none⟩, ⟨some 35, .indexAddr 22 (.tmp 33) (.tmp 34), 0, none⟩, ⟨some 36, .load 9 (.tmp 35), 9, none⟩, ⟨some 37, .call ⟨.value (.func 65), #[.tmp 36], #[9]⟩, 4, none⟩, ⟨some 6, .assign (.tmp 37), 4, none⟩] := vR rfl
@[push_cast] theorem vr28_7 : VR r28_7 [⟨some 38, .move (.tmp 6), 4, none⟩, ⟨some 39, .unOp .not 4 (.tmp 38), 4, none⟩] := vR rfl
@[push_cast] theorem vr28_8 : VR r28_8 [⟨some 4, .assign (.const (.bool false)), 4, none⟩] := vR rfl
@[push_cast] theorem vr28_5 : VR r28_5 [⟨some 30, .move (.tmp 5), 3, none⟩, ⟨some 31, .binOp .add 3 (.tmp 30) (.const (.int .i64 1)) 3, 3, none⟩, ⟨some 5, .assign (.tmp 31), 3, none⟩] := vR rfl
@[push_cast] theorem vr28_9 : VR r28_9 [⟨some 7, .assign (.const (.int .i64 0)), 3, none⟩] := vR rfl
@[push_cast] theorem vr28_10 : VR r28_10 [⟨some 40, .move (.tmp 7), 3, none⟩, ⟨some 41, .fieldAddr 35 (.tmp 3) 3, 0, none⟩, ⟨some 42, .load 33 (.tmp 41), 33, none⟩, ⟨some 43, .call ⟨.builtin .len, #[.tmp 42], #[33]⟩, 3, none⟩, ⟨some 44, .binOp .lss 3 (.tmp 40) (.tmp 43) 3, 4, none⟩] := vR rfl
@[push_cast] theorem vr28_12 : VR r28_12 [⟨some 47, .fieldAddr 35 (.tmp 3) 3, 0, none⟩, ⟨some 48, .load 33 (.tmp 47), 33, none⟩, ⟨some 49, .move (.tmp 7), 3, none⟩, ⟨some 50, .indexAddr 33 (.tmp 48) (.tmp 49), 0, none⟩, ⟨some 51, .load 64 (.tmp 50), 64, none⟩, ⟨some 52, .call ⟨.value (.func 66), #[.tmp 51], #[64]⟩, 4, none⟩, ⟨some 8, .assign (.tmp 52), 4, none⟩] := vR rfl
@[push_cast] theorem vr28_13 : VR r28_13 [⟨some 53, .move (.tmp 8), 4, none⟩, ⟨some 54, .unOp .not 4 (.tmp 53), 4, none⟩] := vR rfl
@[push_cast] theorem vr28_14 : VR r28_14 [⟨some 4, .assign (.const (.bool false)), 4, none⟩] := vR rfl
@[push_cast] theorem vr28_11 : VR r28_11 [⟨some 45, .move (.tmp 7), 3, none⟩, ⟨some 46, .binOp .add 3 (.tmp 45) (.const (.int .i64 1)) 3, 3, none⟩, ⟨some 7, .assign (.tmp 46), 3, none⟩] := vR rfl
@[push_cast] theorem vr28_15 : VR r28_15 [⟨some 55, .fieldAddr 35 (.tmp 3) 0, 0, none⟩, ⟨some 56, .load 3 (.tmp 55), 3, none⟩, ⟨some 57, .binOp .geq 3 (.tmp 56) (.const (.int .i64 0)) 3, 4, none⟩, ⟨some 58, .move (.tmp 57), 4, none⟩, ⟨some 59, .fieldAddr 35 (.tmp 3) 0, 0, some (58, true)⟩, ⟨some 60, .load 3 (.tmp 59), 3, some (58, true)⟩, ⟨some 61, .binOp .leq 3 (.tmp 60) (.const (.int .i64 1099511627776)) 3, 4, some (58, true)⟩, ⟨some 62, .pick (.tmp 58) (.tmp 61) (.const (.bool false)), 4, none⟩, ⟨some 63, .move (.tmp 62), 4, none⟩, ⟨some 64, .fieldAddr 35 (.tmp 3) 2, 0, some (63, true)⟩, ⟨some 65, .load 3 (.tmp 64), 3, some (63, true)⟩, ⟨some 66, .binOp .geq 3 (.tmp 65) (.const (.int .i64 1)) 3, 4, some (63, true)⟩, ⟨some 67, .pick (.tmp 63) (.tmp 66) (.const (.bool false)), 4, none⟩, ⟨some 68, .move (.tmp 67), 4, none⟩, ⟨some 69, .fieldAddr 35 (.tmp 3) 2, 0, some (68, true)⟩, ⟨some 70, .load 3 (.tmp 69), 3, some (68, true)⟩, ⟨some 71, .binOp .leq 3 (.tmp 70) (.const (.int .i64 1048576)) 3, 4, some (68, true)⟩, ⟨some 72, .pick (.tmp 68) (.tmp 71) (.const (.bool false)), 4, none⟩, ⟨some 4, .assign (.tmp 72), 4, none⟩] := vR rfl
/-! 29 columbary/columbaryref13.One (params #[35, 35], results #[(.tmp 4)], 26 slots) -/
def r29_0 : List VOp :=
  [⟨some 2, .box 35 (.tmp 0), 0, none⟩,
   ⟨some 3, .box 35 (.tmp 1), 0, none⟩,
   ⟨some 4, .assign (.const (.bool false)), 4, none⟩]
def r29_1 : List VOp :=
  [lda 7 35 2,
   lda 8 35 3,
   ⟨some 9, .call ⟨.value (.func 45), #[.tmp 7, .tmp 8], #[35, 35]⟩, 4, none⟩,
   asg 5 9 4]
def r29_2 : List VOp :=
  [fad 10 35 2 3,
   lda 11 33 10,
   fad 12 35 3 3,
   lda 13 33 12,
   ⟨some 14, .call ⟨.value (.func 67), #[.tmp 11, .tmp 13], #[33, 33]⟩, 4, none⟩,
   asg 6 14 4]
def r29_3 : List VOp :=
  [mv 15 5 4,
   mv 16 15 4,
   ⟨some 17, .move (.tmp 6), 4, some (16, true)⟩,
   ⟨some 18, .pick (.tmp 16) (.tmp 17) (.const (.bool false)), 4, none⟩,
   mv 19 18 4,
   ⟨some 20, .fieldAddr 35 (.tmp 2) 2, 0, some (19, true)⟩,
   ⟨some 21, .load 3 (.tmp 20), 3, some (19, true)⟩,
   ⟨some 22, .fieldAddr 35 (.tmp 3) 2, 0, some (19, true)⟩,
   ⟨some 23, .load 3 (.tmp 22), 3, some (19, true)⟩,
   ⟨some 24, .binOp .eql 3 (.tmp 21) (.tmp 23) 3, 4, some (19, true)⟩,
   ⟨some 25, .pick (.tmp 19) (.tmp 24) (.const (.bool false)), 4, none⟩,
   asg 4 25 4]
def B29 : VC :=
  (.seq (.region r29_0) (.seq (.region r29_1) (.seq (.region r29_2) (.seq (.region r29_3) .ret))))
theorem code29 : ∃ c, Try.f29.body = some c ∧ abs Try.f29.ntmps c = B29 := ⟨_, rfl, by kernel_rfl⟩
theorem hb29 : HasBody Try.prog 29 := hasBody_of Try.func29 (by kernel_rfl)
theorem res29 : Try.f29.results = #[(.tmp 4)] := rfl
theorem enter29 {w : World} {R : Value → World → Prop} (x0 x1 : Value) (h : vc Try.prog B29 (retK Try.prog #[(.tmp 4)] R) [] (initEnv [x0, x1] 0) w) : FnC Try.prog 29 #[x0, x1] w R := by
  obtain ⟨c, h1, h2⟩ := code29
  exact hb29.fn (ret_of_vc mixed Try.func29 h1 (Nat.le_of_ble_eq_true rfl) B29 h2 h)
@[push_cast] theorem vr29_0 : VR r29_0 [⟨some 2, .box 35 (.tmp 0), 0, none⟩, ⟨some 3, .box 35 (.tmp 1), 0, none⟩, ⟨some 4, .assign (.const (.bool false)), 4, none⟩] := vR rfl
@[push_cast] theorem vr29_1 : VR r29_1 [⟨some 7, .load 35 (.tmp 2), 35, none⟩, ⟨some 8, .load 35 (.tmp 3), 35, none⟩, ⟨some 9, .call ⟨.value (.func 45), #[.tmp 7, .tmp 8], #[35, 35]⟩, 4, none⟩, ⟨some 5, .assign (.tmp 9), 4, none⟩] := vR rfl
@[push_cast] theorem vr29_2 : VR r29_2 [⟨some 10, .fieldAddr 35 (.tmp 2) 3, 0, none⟩, ⟨some 11, .load 33 (.tmp 10), 33, none⟩, ⟨some 12, .fieldAddr 35 (.tmp 3) 3, 0, none⟩, ⟨some 13, .load 33 (.tmp 12), 33, none⟩, ⟨some 14, .call ⟨.value (.func 67), #[.tmp 11, .tmp 13], #[33, 33]⟩, 4, none⟩, ⟨some 6, .assign (.tmp 14), 4, none⟩] := vR rfl
@[push_cast] theorem vr29_3 : VR r29_3 [⟨some 15, .move (.tmp 5), 4, none⟩, ⟨some 16, .move (.tmp 15), 4, none⟩, ⟨some 17, .move (.tmp 6), 4, some (16, true)⟩, ⟨some 18, .pick (.tmp 16) (.tmp 17) (.const (.bool false)), 4, none⟩, ⟨some 19, .move (.tmp 18), 4, none⟩, ⟨some 20, .fieldAddr 35 (.tmp 2) 2, 0, some (19, true)⟩, ⟨some 21, .load 3 (.tmp 20), 3, some (19, true)⟩, ⟨some 22, .fieldAddr 35 (.tmp 3) 2, 0, some (19, true)⟩, ⟨some 23, .load 3 (.tmp 22), 3, some (19, true)⟩, ⟨some 24, .binOp .eql 3 (.tmp 21) (.tmp 23) 3, 4, some (19, true)⟩, ⟨some 25, .pick (.tmp 19) (.tmp 24) (.const (.bool false)), 4, none⟩, ⟨some 4, .assign (.tmp 25), 4, none⟩] := vR rfl
/-! 30 columbary/rows.Copy (params #[25], results #[(.tmp 2)], 14 slots) -/
def r30_0 : List VOp :=
  [⟨some 2, .assign (.const (.slice none 0 0)), 25, none⟩]
def r30_1 : List VOp :=
  [⟨some 3, .alloc 25, 0, none⟩]
def r30_2 : List VOp :=
  [mv 5 0 25,
   ⟨some 6, .call ⟨.value (.func 68), #[.tmp 5], #[25]⟩, 86, none⟩]
def r30_3 : List VOp :=
  [⟨some 4, .alloc 35, 0, none⟩,
   ⟨none, .store 35 (.tmp 4) (.tmp 7), 0, none⟩]
def r30_4 : List VOp :=
  [lda 8 25 3,
   lda 9 35 4,
   ⟨some 10, .call ⟨.value (.func 69), #[.tmp 9], #[35]⟩, 35, none⟩,
   ⟨some 11, .buildSlice 25 1 #[(0, (.tmp 10))], 25, none⟩,
   ⟨some 12, .call ⟨.builtin .append, #[.tmp 8, .tmp 11], #[25, 25]⟩, 25, none⟩,
   ⟨none, .store 25 (.tmp 3) (.tmp 12), 0, none⟩]
def r30_5 : List VOp :=
  [lda 13 25 3,
   asg 2 13 25]
def B30 : VC :=
  (.seq (.region r30_0) (.seq (.region r30_1) (.seq (.seq (.region r30_2) (.block 0 (.rangeFunc (.tmp 6) [7] (.region r30_3) (.block 1 (.drawR r30_4 3))))) (.seq (.region r30_5) .ret))))
theorem code30 : ∃ c, Try.f30.body = some c ∧ abs Try.f30.ntmps c = B30 := ⟨_, rfl, by kernel_rfl⟩
theorem hb30 : HasBody Try.prog 30 := hasBody_of Try.func30 (by kernel_rfl)
theorem res30 : Try.f30.results = #[(.tmp 2)] := rfl
theorem enter30 {w : World} {R : Value → World → Prop} (x0 : Value) (h : vc Try.prog B30 (retK Try.prog #[(.tmp 2)] R) [] (initEnv [x0] 0) w) : FnC Try.prog 30 #[x0] w R := by
  obtain ⟨c, h1, h2⟩ := code30
  exact hb30.fn (ret_of_vc mixed Try.func30 h1 (Nat.le_of_ble_eq_true rfl) B30 h2 h)
@[push_cast] theorem vr30_0 : VR r30_0 [⟨some 2, .assign (.const (.slice none 0 0)), 25, none⟩] := vR rfl
@[push_cast] theorem vr30_1 : VR r30_1 [⟨some 3, .alloc 25, 0, none⟩] := vR rfl
@[push_cast] theorem vr30_2 : VR r30_2 [⟨some 5, .move (.tmp 0), 25, none⟩, ⟨some 6, .call ⟨.value (.func 68), #[.tmp 5], #[25]⟩, 86, none⟩] := vR rfl
@[push_cast] theorem vr30_3 : VR r30_3 [⟨some 4, .alloc 35, 0, none⟩, ⟨none, .store 35 (.tmp 4) (.tmp 7), 0, none⟩] := vR rfl
@[push_cast] theorem vr30_4 : vc Try.prog (.drawR r30_4 3) Q ds σ w = drawnR Try.prog [(⟨some 8, .load 25 (.tmp 3), 25, none⟩, [3]), (⟨some 9, .load 35 (.tmp 4), 35, none⟩, [4]), (⟨some 10, .call ⟨.value (.func 69), #[.tmp 9], #[35]⟩, 35, none⟩, [9]), (⟨some 11, .buildSlice 25 1 #[(0, (.tmp 10))], 25, none⟩, [10]), (⟨some 12, .call ⟨.builtin .append, #[.tmp 8, .tmp 11], #[25, 25]⟩, 25, none⟩, [8, 11]), (⟨none, .store 25 (.tmp 3) (.tmp 12), 0, none⟩, [3, 12])] 3 (Q .normal ds) σ w := mk_eq rfl
@[push_cast] theorem vr30_5 : VR r30_5 [⟨some 13, .load 25 (.tmp 3), 25, none⟩, ⟨some 2, .assign (.tmp 13), 25, none⟩] := vR rfl
/-! 31 columbary/rows.Fold (params #[25], results #[(.tmp 2), (.tmp 3)], 58 slots) -/
def W31_0 : List Nat := [2, 3, 4, 6, 7, 8, 9, 16, 17, 18, 19, 20, 21, 22, 23, 24, 25, 26, 27, 28, 29, 30, 31, 32, 33, 34, 35, 36, 37, 38, 39, 40, 41, 42, 43, 44, 45, 46, 47, 48, 49, 50, 51, 52, 53, 54, 55, 56]
@[push_cast] theorem W31_0_def : W31_0 = [2, 3, 4, 6, 7, 8, 9, 16, 17, 18, 19, 20, 21, 22, 23, 24, 25, 26, 27, 28, 29, 30, 31, 32, 33, 34, 35, 36, 37, 38, 39, 40, 41, 42, 43, 44, 45, 46, 47, 48, 49, 50, 51, 52, 53, 54, 55, 56] := mk_eq rfl
def r31_0 : List VOp :=
  [⟨some 2, .assign (.const (.slice none 0 0)), 25, none⟩,
   ⟨some 3, .assign (.const (.int .i64 0)), 28, none⟩]
def r31_1 : List VOp :=
  [mv 10 0 25,
   ⟨some 11, .call ⟨.value (.func 30), #[.tmp 10], #[25]⟩, 25, none⟩,
   asg 0 11 25]
def r31_2 : List VOp :=
  [mv 12 0 25,
   ⟨some 13, .call ⟨.value (.func 70), #[(.tmp 12), (.func 34)], #[25, 58]⟩, 0, none⟩]
def r31_3 : List VOp :=
  [⟨some 4, .assign (.const (.slice none 0 0)), 25, none⟩]
def r31_4 : List VOp :=
  [mv 14 0 25,
   ⟨some 15, .call ⟨.builtin .len, #[.tmp 14], #[25]⟩, 3, none⟩,
   ⟨some 16, .move (.const (.int .i64 0)), 3, none⟩]
def r31_5 : List VOp :=
  [⟨some 17, .binOp .lss 3 (.tmp 16) (.tmp 15) 3, 0, none⟩]
def r31_6 : List VOp :=
  [iad 18 25 14 16,
   lda 19 35 18,
   ⟨some 6, .alloc 35, 0, none⟩,
   ⟨none, .store 35 (.tmp 6) (.tmp 19), 0, none⟩]
def r31_7 : List VOp :=
  [mv 20 4 25,
   ⟨some 21, .call ⟨.builtin .len, #[.tmp 20], #[25]⟩, 3, none⟩,
   asg 7 21 3]
def r31_8 : List VOp :=
  [mv 22 7 3,
   ⟨some 23, .binOp .eql 3 (.tmp 22) (.const (.int .i64 0)) 3, 4, none⟩,
   mv 24 23 4,
   ⟨some 25, .move (.tmp 4), 25, some (24, false)⟩,
   ⟨some 26, .move (.tmp 7), 3, some (24, false)⟩,
   ⟨some 27, .binOp .sub 3 (.tmp 26) (.const (.int .i64 1)) 3, 3, some (24, false)⟩,
   ⟨some 28, .indexAddr 25 (.tmp 25) (.tmp 27), 0, some (24, false)⟩,
   ⟨some 29, .load 35 (.tmp 28), 35, some (24, false)⟩,
   ⟨some 30, .load 35 (.tmp 6), 35, some (24, false)⟩,
   ⟨some 31, .call ⟨.value (.func 34), #[.tmp 29, .tmp 30], #[35, 35]⟩, 3, some (24, false)⟩,
   ⟨some 32, .binOp .neq 3 (.tmp 31) (.const (.int .i64 0)) 3, 4, some (24, false)⟩,
   ⟨some 33, .pick (.tmp 24) (.const (.bool true)) (.tmp 32), 4, none⟩]
def r31_9 : List VOp :=
  [mv 34 4 25,
   lda 35 35 6,
   ⟨some 36, .buildSlice 25 1 #[(0, (.tmp 35))], 25, none⟩,
   ⟨some 37, .call ⟨.builtin .append, #[.tmp 34, .tmp 36], #[25, 25]⟩, 25, none⟩,
   asg 4 37 25]
def r31_10 : List VOp :=
  [mv 39 4 25,
   mv 40 7 3,
   ⟨some 41, .binOp .sub 3 (.tmp 40) (.const (.int .i64 1)) 3, 3, none⟩,
   iad 42 25 39 41,
   lda 43 35 42,
   lda 44 35 6,
   ⟨some 45, .call ⟨.value (.func 35), #[.tmp 43, .tmp 44], #[35, 35]⟩, 50, none⟩,
   mv 38 45 50,
   ext 46 38 0 35,
   ext 47 38 1 28,
   ⟨some 8, .alloc 35, 0, none⟩,
   ⟨none, .store 35 (.tmp 8) (.tmp 46), 0, none⟩,
   asg 9 47 28]
def r31_11 : List VOp :=
  [mv 48 9 28,
   ⟨some 49, .binOp .neq 28 (.tmp 48) (.const (.int .i64 0)) 28, 4, none⟩]
def r31_12 : List VOp :=
  [mv 50 9 28,
   ⟨some 2, .assign (.const (.slice none 0 0)), 25, none⟩,
   asg 3 50 28]
def r31_13 : List VOp :=
  [mv 51 4 25,
   mv 52 7 3,
   ⟨some 53, .binOp .sub 3 (.tmp 52) (.const (.int .i64 1)) 3, 3, none⟩,
   lda 54 35 8,
   iad 55 25 51 53,
   ⟨none, .store 35 (.tmp 55) (.tmp 54), 0, none⟩]
def r31_14 : List VOp :=
  [⟨some 56, .binOp .add 3 (.tmp 16) (.const (.int .i64 1)) 3, 3, none⟩,
   mv 16 56 3]
def r31_15 : List VOp :=
  [mv 57 4 25,
   asg 2 57 25,
   ⟨some 3, .assign (.const (.int .i64 0)), 28, none⟩]
def B31 : VC :=
  (.seq (.region r31_0) (.seq (.region r31_1) (.seq (.region r31_2) (.seq (.region r31_3) (.seq (.seq (.region r31_4) (.block 0 (.loop (.seq (.region r31_5) (.seq (.cond (.tmp 17) .skip (.exit 0)) (.seq (.block 1 (.seq (.region r31_6) (.seq (.region r31_7) (.seq (.seq (.draw r31_8 4) (.cond (.tmp 33) (.seq (.region r31_9) (.exit 1)) .skip)) (.seq (.drawS r31_10 2 [47]) (.seq (.seq (.region r31_11) (.cond (.tmp 49) (.seq (.region r31_12) .ret) .skip)) (.region r31_13))))))) (.region r31_14))))))) (.seq (.region r31_15) .ret))))))
theorem code31 : ∃ c, Try.f31.body = some c ∧ abs Try.f31.ntmps c = B31 := ⟨_, rfl, by kernel_rfl⟩
theorem hb31 : HasBody Try.prog 31 := hasBody_of Try.func31 (by kernel_rfl)
theorem res31 : Try.f31.results = #[(.tmp 2), (.tmp 3)] := rfl
theorem enter31 {w : World} {R : Value → World → Prop} (x0 : Value) (h : vc Try.prog B31 (retK Try.prog #[(.tmp 2), (.tmp 3)] R) [] (initEnv [x0] 0) w) : FnC Try.prog 31 #[x0] w R := by
  obtain ⟨c, h1, h2⟩ := code31
  exact hb31.fn (ret_of_vc mixed Try.func31 h1 (Nat.le_of_ble_eq_true rfl) B31 h2 h)
@[push_cast] theorem vr31_0 : VR r31_0 [⟨some 2, .assign (.const (.slice none 0 0)), 25, none⟩, ⟨some 3, .assign (.const (.int .i64 0)), 28, none⟩] := vR rfl
@[push_cast] theorem vr31_1 : VR r31_1 [⟨some 10, .move (.tmp 0), 25, none⟩, ⟨some 11, .call ⟨.value (.func 30), #[.tmp 10], #[25]⟩, 25, none⟩, ⟨some 0, .assign (.tmp 11), 25, none⟩] := vR rfl
@[push_cast] theorem vr31_2 : VR r31_2 [⟨some 12, .move (.tmp 0), 25, none⟩, ⟨some 13, .call ⟨.value (.func 70), #[(.tmp 12), (.func 34)], #[25, 58]⟩, 0, none⟩] := vR rfl
@[push_cast] theorem vr31_3 : VR r31_3 [⟨some 4, .assign (.const (.slice none 0 0)), 25, none⟩] := vR rfl
@[push_cast] theorem vr31_4 : VR r31_4 [⟨some 14, .move (.tmp 0), 25, none⟩, ⟨some 15, .call ⟨.builtin .len, #[.tmp 14], #[25]⟩, 3, none⟩, ⟨some 16, .move (.const (.int .i64 0)), 3, none⟩] := vR rfl
@[push_cast] theorem vr31_5 : VR r31_5 [⟨some 17, .binOp .lss 3 (.tmp 16) (.tmp 15) 3, 0, none⟩] := vR rfl
@[push_cast] theorem vr31_6 : VR r31_6 [⟨some 18, .indexAddr 25 (.tmp 14) (.tmp 16), 0, none⟩, ⟨some 19, .load 35 (.tmp 18), 35, none⟩, ⟨some 6, .alloc 35, 0, none⟩, ⟨none, .store 35 (.tmp 6) (.tmp 19), 0, none⟩] := vR rfl
@[push_cast] theorem vr31_7 : VR r31_7 [⟨some 20, .move (.tmp 4), 25, none⟩, ⟨some 21, .call ⟨.builtin .len, #[.tmp 20], #[25]⟩, 3, none⟩, ⟨some 7, .assign (.tmp 21), 3, none⟩] := vR rfl
@[push_cast] theorem vr31_8 : vc Try.prog (.draw r31_8 4) Q ds σ w = drawn Try.prog [(⟨some 22, .move (.tmp 7), 3, none⟩, [7]), (⟨some 23, .binOp .eql 3 (.tmp 22) (.const (.int .i64 0)) 3, 4, none⟩, [22]), (⟨some 24, .move (.tmp 23), 4, none⟩, [23]), (⟨some 25, .move (.tmp 4), 25, some (24, false)⟩, [4, 24]), (⟨some 26, .move (.tmp 7), 3, some (24, false)⟩, [7, 24]), (⟨some 27, .binOp .sub 3 (.tmp 26) (.const (.int .i64 1)) 3, 3, some (24, false)⟩, [26, 24]), (⟨some 28, .indexAddr 25 (.tmp 25) (.tmp 27), 0, some (24, false)⟩, [25, 27, 24]), (⟨some 29, .load 35 (.tmp 28), 35, some (24, false)⟩, [28, 24]), (⟨some 30, .load 35 (.tmp 6), 35, some (24, false)⟩, [6, 24]), (⟨some 31, .call ⟨.value (.func 34), #[.tmp 29, .tmp 30], #[35, 35]⟩, 3, some (24, false)⟩, [29, 30, 24]), (⟨some 32, .binOp .neq 3 (.tmp 31) (.const (.int .i64 0)) 3, 4, some (24, false)⟩, [31, 24]), (⟨some 33, .pick (.tmp 24) (.const (.bool true)) (.tmp 32), 4, none⟩, [24, 32])] 4 (Q .normal ds) σ w := mk_eq rfl
@[push_cast] theorem vr31_9 : VR r31_9 [⟨some 34, .move (.tmp 4), 25, none⟩, ⟨some 35, .load 35 (.tmp 6), 35, none⟩, ⟨some 36, .buildSlice 25 1 #[(0, (.tmp 35))], 25, none⟩, ⟨some 37, .call ⟨.builtin .append, #[.tmp 34, .tmp 36], #[25, 25]⟩, 25, none⟩, ⟨some 4, .assign (.tmp 37), 25, none⟩] := vR rfl
@[push_cast] theorem vr31_10 : vc Try.prog (.drawS r31_10 2 [47]) Q ds σ w = drawnS Try.prog [(⟨some 39, .move (.tmp 4), 25, none⟩, [4]), (⟨some 40, .move (.tmp 7), 3, none⟩, [7]), (⟨some 41, .binOp .sub 3 (.tmp 40) (.const (.int .i64 1)) 3, 3, none⟩, [40]), (⟨some 42, .indexAddr 25 (.tmp 39) (.tmp 41), 0, none⟩, [39, 41]), (⟨some 43, .load 35 (.tmp 42), 35, none⟩, [42]), (⟨some 44, .load 35 (.tmp 6), 35, none⟩, [6]), (⟨some 45, .call ⟨.value (.func 35), #[.tmp 43, .tmp 44], #[35, 35]⟩, 50, none⟩, [43, 44]), (⟨some 38, .move (.tmp 45), 50, none⟩, [45]), (⟨some 46, .extract (.tmp 38) 0, 35, none⟩, [38]), (⟨some 47, .extract (.tmp 38) 1, 28, none⟩, [38]), (⟨some 8, .alloc 35, 0, none⟩, []), (⟨none, .store 35 (.tmp 8) (.tmp 46), 0, none⟩, [8, 46]), (⟨some 9, .assign (.tmp 47), 28, none⟩, [47])] 2 [47] (Q .normal ds) σ w := mk_eq rfl
@[push_cast] theorem vr31_11 : VR r31_11 [⟨some 48, .move (.tmp 9), 28, none⟩, ⟨some 49, .binOp .neq 28 (.tmp 48) (.const (.int .i64 0)) 28, 4, none⟩] := vR rfl
@[push_cast] theorem vr31_12 : VR r31_12 [⟨some 50, .move (.tmp 9), 28, none⟩, ⟨some 2, .assign (.const (.slice none 0 0)), 25, none⟩, ⟨some 3, .assign (.tmp 50), 28, none⟩] := vR rfl
@[push_cast] theorem vr31_13 : VR r31_13 [⟨some 51, .move (.tmp 4), 25, none⟩, ⟨some 52, .move (.tmp 7), 3, none⟩, ⟨some 53, .binOp .sub 3 (.tmp 52) (.const (.int .i64 1)) 3, 3, none⟩, ⟨some 54, .load 35 (.tmp 8), 35, none⟩, ⟨some 55, .indexAddr 25 (.tmp 51) (.tmp 53), 0, none⟩, ⟨none, .store 35 (.tmp 55) (.tmp 54), 0, none⟩] := vR rfl
@[push_cast] theorem vr31_14 : VR r31_14 [⟨some 56, .binOp .add 3 (.tmp 16) (.const (.int .i64 1)) 3, 3, none⟩, ⟨some 16, .move (.tmp 56), 3, none⟩] := vR rfl
@[push_cast] theorem vr31_15 : VR r31_15 [⟨some 57, .move (.tmp 4), 25, none⟩, ⟨some 2, .assign (.tmp 57), 25, none⟩, ⟨some 3, .assign (.const (.int .i64 0)), 28, none⟩] := vR rfl
/-! 34 columbary/rows.Compare (params #[35, 35], results #[(.tmp 4)], 17 slots) -/
def r34_0 : List VOp :=
  [⟨some 2, .box 35 (.tmp 0), 0, none⟩,
   ⟨some 3, .box 35 (.tmp 1), 0, none⟩,
   ⟨some 4, .assign (.const (.int .i64 0)), 3, none⟩]
def r34_1 : List VOp :=
  [fad 5 35 2 0,
   lda 6 3 5,
   fad 7 35 3 0,
   lda 8 3 7,
   ⟨some 9, .call ⟨.value (.func 72), #[.tmp 6, .tmp 8], #[3, 3]⟩, 3, none⟩,
   fad 10 35 2 1,
   lda 11 22 10,
   fad 12 35 3 1,
   lda 13 22 12,
   ⟨some 14, .call ⟨.value (.func 73), #[.tmp 11, .tmp 13], #[22, 22]⟩, 3, none⟩,
   ⟨some 15, .buildSlice 47 2 #[(0, (.tmp 9)), (1, (.tmp 14))], 47, none⟩,
   ⟨some 16, .call ⟨.value (.func 71), #[.tmp 15], #[47]⟩, 3, none⟩,
   asg 4 16 3]
def B34 : VC :=
  (.seq (.region r34_0) (.seq (.draw r34_1 5) .ret))
theorem code34 : ∃ c, Try.f34.body = some c ∧ abs Try.f34.ntmps c = B34 := ⟨_, rfl, by kernel_rfl⟩
theorem hb34 : HasBody Try.prog 34 := hasBody_of Try.func34 (by kernel_rfl)
theorem res34 : Try.f34.results = #[(.tmp 4)] := rfl
theorem enter34 {w : World} {R : Value → World → Prop} (x0 x1 : Value) (h : vc Try.prog B34 (retK Try.prog #[(.tmp 4)] R) [] (initEnv [x0, x1] 0) w) : FnC Try.prog 34 #[x0, x1] w R := by
  obtain ⟨c, h1, h2⟩ := code34
  exact hb34.fn (ret_of_vc mixed Try.func34 h1 (Nat.le_of_ble_eq_true rfl) B34 h2 h)
@[push_cast] theorem vr34_0 : VR r34_0 [⟨some 2, .box 35 (.tmp 0), 0, none⟩, ⟨some 3, .box 35 (.tmp 1), 0, none⟩, ⟨some 4, .assign (.const (.int .i64 0)), 3, none⟩] := vR rfl
@[push_cast] theorem vr34_1 : vc Try.prog (.draw r34_1 5) Q ds σ w = drawn Try.prog [(⟨some 5, .fieldAddr 35 (.tmp 2) 0, 0, none⟩, [2]), (⟨some 6, .load 3 (.tmp 5), 3, none⟩, [5]), (⟨some 7, .fieldAddr 35 (.tmp 3) 0, 0, none⟩, [3]), (⟨some 8, .load 3 (.tmp 7), 3, none⟩, [7]), (⟨some 9, .call ⟨.value (.func 72), #[.tmp 6, .tmp 8], #[3, 3]⟩, 3, none⟩, [6, 8]), (⟨some 10, .fieldAddr 35 (.tmp 2) 1, 0, none⟩, [2]), (⟨some 11, .load 22 (.tmp 10), 22, none⟩, [10]), (⟨some 12, .fieldAddr 35 (.tmp 3) 1, 0, none⟩, [3]), (⟨some 13, .load 22 (.tmp 12), 22, none⟩, [12]), (⟨some 14, .call ⟨.value (.func 73), #[.tmp 11, .tmp 13], #[22, 22]⟩, 3, none⟩, [11, 13]), (⟨some 15, .buildSlice 47 2 #[(0, (.tmp 9)), (1, (.tmp 14))], 47, none⟩, [9, 14]), (⟨some 16, .call ⟨.value (.func 71), #[.tmp 15], #[47]⟩, 3, none⟩, [15]), (⟨some 4, .assign (.tmp 16), 3, none⟩, [16])] 5 (Q .normal ds) σ w := mk_eq rfl
/-! 35 columbary/rows.Join (params #[35, 35], results #[(.cell 4 35), (.tmp 5)], 74 slots) -/
def W35_0 : List Nat := [5, 7, 8, 9, 10, 48, 49, 50, 51, 52, 53, 54, 55, 56, 57, 58, 59, 60, 61, 62, 63, 64, 65, 66, 67, 68, 69, 70, 71, 72]
@[push_cast] theorem W35_0_def : W35_0 = [5, 7, 8, 9, 10, 48, 49, 50, 51, 52, 53, 54, 55, 56, 57, 58, 59, 60, 61, 62, 63, 64, 65, 66, 67, 68, 69, 70, 71, 72] := mk_eq rfl
def r35_0 : List VOp :=
  [⟨some 2, .box 35 (.tmp 0), 0, none⟩,
   ⟨some 3, .box 35 (.tmp 1), 0, none⟩,
   ⟨some 4, .alloc 35, 0, none⟩,
   ⟨some 5, .assign (.const (.int .i64 0)), 28, none⟩]
def r35_1 : List VOp :=
  [lda 12 35 2,
   lda 13 35 3,
   ⟨some 14, .call ⟨.value (.func 34), #[.tmp 12, .tmp 13], #[35, 35]⟩, 3, none⟩,
   ⟨some 15, .binOp .neq 3 (.tmp 14) (.const (.int .i64 0)) 3, 4, none⟩,
   mv 16 15 4,
   ⟨some 17, .fieldAddr 35 (.tmp 2) 3, 0, some (16, false)⟩,
   ⟨some 18, .load 33 (.tmp 17), 33, some (16, false)⟩,
   ⟨some 19, .call ⟨.builtin .len, #[.tmp 18], #[33]⟩, 3, some (16, false)⟩,
   ⟨some 20, .fieldAddr 35 (.tmp 3) 3, 0, some (16, false)⟩,
   ⟨some 21, .load 33 (.tmp 20), 33, some (16, false)⟩,
   ⟨some 22, .call ⟨.builtin .len, #[.tmp 21], #[33]⟩, 3, some (16, false)⟩,
   ⟨some 23, .binOp .neq 3 (.tmp 19) (.tmp 22) 3, 4, some (16, false)⟩,
   ⟨some 24, .pick (.tmp 16) (.const (.bool true)) (.tmp 23), 4, none⟩,
   asg 11 24 4]
def r35_2 : List VOp :=
  [⟨some 25, .build 35 #[], 35, none⟩,
   ⟨none, .store 35 (.tmp 4) (.tmp 25), 0, none⟩,
   ⟨some 5, .assign (.const (.int .i64 131)), 28, none⟩]
def r35_3 : List VOp :=
  [fad 27 35 2 2,
   lda 28 3 27,
   fad 29 35 3 2,
   lda 30 3 29,
   ⟨some 31, .binOp .add 3 (.tmp 28) (.tmp 30) 3, 3, none⟩,
   ⟨some 32, .binOp .gtr 3 (.tmp 31) (.const (.int .i64 1048576)) 3, 4, none⟩,
   asg 26 32 4]
def r35_4 : List VOp :=
  [⟨some 33, .build 35 #[], 35, none⟩,
   ⟨none, .store 35 (.tmp 4) (.tmp 33), 0, none⟩,
   ⟨some 5, .assign (.const (.int .i64 121)), 28, none⟩]
def r35_5 : List VOp :=
  [fad 34 35 2 0,
   lda 35 3 34,
   fad 36 35 2 1,
   lda 37 22 36,
   ⟨some 38, .call ⟨.value (.func 52), #[.tmp 37], #[22]⟩, 22, none⟩,
   fad 39 35 2 2,
   lda 40 3 39,
   fad 41 35 3 2,
   lda 42 3 41,
   ⟨some 43, .binOp .add 3 (.tmp 40) (.tmp 42) 3, 3, none⟩,
   ⟨some 44, .build 35 #[(0, (.tmp 35)), (1, (.tmp 38)), (2, (.tmp 43))], 35, none⟩,
   ⟨some 6, .alloc 35, 0, none⟩,
   ⟨none, .store 35 (.tmp 6) (.tmp 44), 0, none⟩]
def r35_6 : List VOp :=
  [fad 45 35 2 3,
   lda 46 33 45,
   ⟨some 47, .call ⟨.builtin .len, #[.tmp 46], #[33]⟩, 3, none⟩,
   ⟨some 48, .move (.const (.int .i64 0)), 3, none⟩]
def r35_7 : List VOp :=
  [⟨some 49, .binOp .lss 3 (.tmp 48) (.tmp 47) 3, 0, none⟩]
def r35_8 : List VOp :=
  [mv 50 48 3,
   iad 51 33 46 48,
   lda 52 64 51,
   ⟨some 8, .alloc 64, 0, none⟩,
   asg 7 50 3,
   ⟨none, .store 64 (.tmp 8) (.tmp 52), 0, none⟩]
def r35_9 : List VOp :=
  [lda 54 64 8,
   fad 55 35 3 3,
   lda 56 33 55,
   mv 57 7 3,
   iad 58 33 56 57,
   lda 59 64 58,
   ⟨some 60, .call ⟨.value (.func 74), #[.tmp 54, .tmp 59], #[64, 64]⟩, 78, none⟩,
   mv 53 60 78,
   ext 61 53 0 64,
   ext 62 53 1 28,
   ⟨some 9, .alloc 64, 0, none⟩,
   ⟨none, .store 64 (.tmp 9) (.tmp 61), 0, none⟩,
   asg 10 62 28]
def r35_10 : List VOp :=
  [mv 63 10 28,
   ⟨some 64, .binOp .neq 28 (.tmp 63) (.const (.int .i64 0)) 28, 4, none⟩]
def r35_11 : List VOp :=
  [⟨some 65, .build 35 #[], 35, none⟩,
   ⟨none, .store 35 (.tmp 4) (.tmp 65), 0, none⟩,
   ⟨some 5, .assign (.const (.int .i64 121)), 28, none⟩]
def r35_12 : List VOp :=
  [fad 66 35 6 3,
   lda 67 33 66,
   lda 68 64 9,
   ⟨some 69, .buildSlice 33 1 #[(0, (.tmp 68))], 33, none⟩,
   ⟨some 70, .call ⟨.builtin .append, #[.tmp 67, .tmp 69], #[33, 33]⟩, 33, none⟩,
   fad 71 35 6 3,
   ⟨none, .store 33 (.tmp 71) (.tmp 70), 0, none⟩]
def r35_13 : List VOp :=
  [⟨some 72, .binOp .add 3 (.tmp 48) (.const (.int .i64 1)) 3, 3, none⟩,
   mv 48 72 3]
def r35_14 : List VOp :=
  [lda 73 35 6,
   ⟨none, .store 35 (.tmp 4) (.tmp 73), 0, none⟩,
   ⟨some 5, .assign (.const (.int .i64 0)), 28, none⟩]
def B35 : VC :=
  (.seq (.region r35_0) (.seq (.block 0 (.seq (.region r35_1) (.cond (.tmp 11) (.seq (.region r35_2) .ret) (.seq (.region r35_3) (.cond (.tmp 26) (.seq (.region r35_4) .ret) .skip))))) (.seq (.draw r35_5 2) (.seq (.seq (.region r35_6) (.block 1 (.loop (.seq (.region r35_7) (.seq (.cond (.tmp 49) .skip (.exit 1)) (.seq (.block 2 (.seq (.region r35_8) (.seq (.drawS r35_9 2 [62]) (.seq (.seq (.region r35_10) (.cond (.tmp 64) (.seq (.region r35_11) .ret) .skip)) (.region r35_12))))) (.region r35_13))))))) (.seq (.region r35_14) .ret)))))
theorem code35 : ∃ c, Try.f35.body = some c ∧ abs Try.f35.ntmps c = B35 := ⟨_, rfl, by kernel_rfl⟩
theorem hb35 : HasBody Try.prog 35 := hasBody_of Try.func35 (by kernel_rfl)
theorem res35 : Try.f35.results = #[(.cell 4 35), (.tmp 5)] := rfl
theorem enter35 {w : World} {R : Value → World → Prop} (x0 x1 : Value) (h : vc Try.prog B35 (retK Try.prog #[(.cell 4 35), (.tmp 5)] R) [] (initEnv [x0, x1] 0) w) : FnC Try.prog 35 #[x0, x1] w R := by
  obtain ⟨c, h1, h2⟩ := code35
  exact hb35.fn (ret_of_vc mixed Try.func35 h1 (Nat.le_of_ble_eq_true rfl) B35 h2 h)
@[push_cast] theorem vr35_0 : VR r35_0 [⟨some 2, .box 35 (.tmp 0), 0, none⟩, ⟨some 3, .box 35 (.tmp 1), 0, none⟩, ⟨some 4, .alloc 35, 0, none⟩, ⟨some 5, .assign (.const (.int .i64 0)), 28, none⟩] := vR rfl
@[push_cast] theorem vr35_1 : VR r35_1 [⟨some 12, .load 35 (.tmp 2), 35, none⟩, ⟨some 13, .load 35 (.tmp 3), 35, none⟩, ⟨some 14, .call ⟨.value (.func 34), #[.tmp 12, .tmp 13], #[35, 35]⟩, 3, none⟩, ⟨some 15, .binOp .neq 3 (.tmp 14) (.const (.int .i64 0)) 3, 4, none⟩, ⟨some 16, .move (.tmp 15), 4, none⟩, ⟨some 17, .fieldAddr 35 (.tmp 2) 3, 0, some (16, false)⟩, ⟨some 18, .load 33 (.tmp 17), 33, some (16, false)⟩, ⟨some 19, .call ⟨.builtin .len, #[.tmp 18], #[33]⟩, 3, some (16, false)⟩, ⟨some 20, .fieldAddr 35 (.tmp 3) 3, 0, some (16, false)⟩, ⟨some 21, .load 33 (.tmp 20), 33, some (16, false)⟩, ⟨some 22, .call ⟨.builtin .len, #[.tmp 21], #[33]⟩, 3, some (16, false)⟩, ⟨some 23, .binOp .neq 3 (.tmp 19) (.tmp 22) 3, 4, some (16, false)⟩, ⟨some 24, .pick (.tmp 16) (.const (.bool true)) (.tmp 23), 4, none⟩, ⟨some 11, .assign (.tmp 24), 4, none⟩] := vR rfl
@[push_cast] theorem vr35_2 : VR r35_2 [⟨some 25, .build 35 #[], 35, none⟩, ⟨none, .store 35 (.tmp 4) (.tmp 25), 0, none⟩, ⟨some 5, .assign (.const (.int .i64 131)), 28, none⟩] := vR rfl
@[push_cast] theorem vr35_3 : VR r35_3 [⟨some 27, .fieldAddr 35 (.tmp 2) 2, 0, none⟩, ⟨some 28, .load 3 (.tmp 27), 3, none⟩, ⟨some 29, .fieldAddr 35 (.tmp 3) 2, 0, none⟩, ⟨some 30, .load 3 (.tmp 29), 3, none⟩, ⟨some 31, .binOp .add 3 (.tmp 28) (.tmp 30) 3, 3, none⟩, ⟨some 32, .binOp .gtr 3 (.tmp 31) (.const (.int .i64 1048576)) 3, 4, none⟩, ⟨some 26, .assign (.tmp 32), 4, none⟩] := vR rfl
@[push_cast] theorem vr35_4 : VR r35_4 [⟨some 33, .build 35 #[], 35, none⟩, ⟨none, .store 35 (.tmp 4) (.tmp 33), 0, none⟩, ⟨some 5, .assign (.const (.int .i64 121)), 28, none⟩] := vR rfl
@[push_cast] theorem vr35_5 : vc Try.prog (.draw r35_5 2) Q ds σ w = drawn Try.prog [(⟨some 34, .fieldAddr 35 (.tmp 2) 0, 0, none⟩, [2]), (⟨some 35, .load 3 (.tmp 34), 3, none⟩, [34]), (⟨some 36, .fieldAddr 35 (.tmp 2) 1, 0, none⟩, [2]), (⟨some 37, .load 22 (.tmp 36), 22, none⟩, [36]), (⟨some 38, .call ⟨.value (.func 52), #[.tmp 37], #[22]⟩, 22, none⟩, [37]), (⟨some 39, .fieldAddr 35 (.tmp 2) 2, 0, none⟩, [2]), (⟨some 40, .load 3 (.tmp 39), 3, none⟩, [39]), (⟨some 41, .fieldAddr 35 (.tmp 3) 2, 0, none⟩, [3]), (⟨some 42, .load 3 (.tmp 41), 3, none⟩, [41]), (⟨some 43, .binOp .add 3 (.tmp 40) (.tmp 42) 3, 3, none⟩, [40, 42]), (⟨some 44, .build 35 #[(0, (.tmp 35)), (1, (.tmp 38)), (2, (.tmp 43))], 35, none⟩, [35, 38, 43]), (⟨some 6, .alloc 35, 0, none⟩, []), (⟨none, .store 35 (.tmp 6) (.tmp 44), 0, none⟩, [6, 44])] 2 (Q .normal ds) σ w := mk_eq rfl
@[push_cast] theorem vr35_6 : VR r35_6 [⟨some 45, .fieldAddr 35 (.tmp 2) 3, 0, none⟩, ⟨some 46, .load 33 (.tmp 45), 33, none⟩, ⟨some 47, .call ⟨.builtin .len, #[.tmp 46], #[33]⟩, 3, none⟩, ⟨some 48, .move (.const (.int .i64 0)), 3, none⟩] := vR rfl
@[push_cast] theorem vr35_7 : VR r35_7 [⟨some 49, .binOp .lss 3 (.tmp 48) (.tmp 47) 3, 0, none⟩] := vR rfl
@[push_cast] theorem vr35_8 : VR r35_8 [⟨some 50, .move (.tmp 48), 3, none⟩, ⟨some 51, .indexAddr 33 (.tmp 46) (.tmp 48), 0, none⟩, ⟨some 52, .load 64 (.tmp 51), 64, none⟩, ⟨some 8, .alloc 64, 0, none⟩, ⟨some 7, .assign (.tmp 50), 3, none⟩, ⟨none, .store 64 (.tmp 8) (.tmp 52), 0, none⟩] := vR rfl
@[push_cast] theorem vr35_9 : vc Try.prog (.drawS r35_9 2 [62]) Q ds σ w = drawnS Try.prog [(⟨some 54, .load 64 (.tmp 8), 64, none⟩, [8]), (⟨some 55, .fieldAddr 35 (.tmp 3) 3, 0, none⟩, [3]), (⟨some 56, .load 33 (.tmp 55), 33, none⟩, [55]), (⟨some 57, .move (.tmp 7), 3, none⟩, [7]), (⟨some 58, .indexAddr 33 (.tmp 56) (.tmp 57), 0, none⟩, [56, 57]), (⟨some 59, .load 64 (.tmp 58), 64, none⟩, [58]), (⟨some 60, .call ⟨.value (.func 74), #[.tmp 54, .tmp 59], #[64, 64]⟩, 78, none⟩, [54, 59]), (⟨some 53, .move (.tmp 60), 78, none⟩, [60]), (⟨some 61, .extract (.tmp 53) 0, 64, none⟩, [53]), (⟨some 62, .extract (.tmp 53) 1, 28, none⟩, [53]), (⟨some 9, .alloc 64, 0, none⟩, []), (⟨none, .store 64 (.tmp 9) (.tmp 61), 0, none⟩, [9, 61]), (⟨some 10, .assign (.tmp 62), 28, none⟩, [62])] 2 [62] (Q .normal ds) σ w := mk_eq rfl
@[push_cast] theorem vr35_10 : VR r35_10 [⟨some 63, .move (.tmp 10), 28, none⟩, ⟨some 64, .binOp .neq 28 (.tmp 63) (.const (.int .i64 0)) 28, 4, none⟩] := vR rfl
@[push_cast] theorem vr35_11 : VR r35_11 [⟨some 65, .build 35 #[], 35, none⟩, ⟨none, .store 35 (.tmp 4) (.tmp 65), 0, none⟩, ⟨some 5, .assign (.const (.int .i64 121)), 28, none⟩] := vR rfl
@[push_cast] theorem vr35_12 : VR r35_12 [⟨some 66, .fieldAddr 35 (.tmp 6) 3, 0, none⟩, ⟨some 67, .load 33 (.tmp 66), 33, none⟩, ⟨some 68, .load 64 (.tmp 9), 64, none⟩, ⟨some 69, .buildSlice 33 1 #[(0, (.tmp 68))], 33, none⟩, ⟨some 70, .call ⟨.builtin .append, #[.tmp 67, .tmp 69], #[33, 33]⟩, 33, none⟩, ⟨some 71, .fieldAddr 35 (.tmp 6) 3, 0, none⟩, ⟨none, .store 33 (.tmp 71) (.tmp 70), 0, none⟩] := vR rfl
@[push_cast] theorem vr35_13 : VR r35_13 [⟨some 72, .binOp .add 3 (.tmp 48) (.const (.int .i64 1)) 3, 3, none⟩, ⟨some 48, .move (.tmp 72), 3, none⟩] := vR rfl
@[push_cast] theorem vr35_14 : VR r35_14 [⟨some 73, .load 35 (.tmp 6), 35, none⟩, ⟨none, .store 35 (.tmp 4) (.tmp 73), 0, none⟩, ⟨some 5, .assign (.const (.int .i64 0)), 28, none⟩] := vR rfl
/-! 36 columbary/columbaryref13.Less (params #[35, 35], results #[(.tmp 4)], 52 slots) -/
def W36_0 : List Nat := [4, 5, 16, 17, 18, 19, 20, 21, 22, 23, 24, 25, 26, 27, 28, 29, 30, 31, 32, 33, 34, 35, 36, 37, 38, 39, 40, 41, 42, 43, 44, 45, 46, 47, 48, 49, 50, 51]
@[push_cast] theorem W36_0_def : W36_0 = [4, 5, 16, 17, 18, 19, 20, 21, 22, 23, 24, 25, 26, 27, 28, 29, 30, 31, 32, 33, 34, 35, 36, 37, 38, 39, 40, 41, 42, 43, 44, 45, 46, 47, 48, 49, 50, 51] := mk_eq rfl
def r36_0 : List VOp :=
  [⟨some 2, .box 35 (.tmp 0), 0, none⟩,
   ⟨some 3, .box 35 (.tmp 1), 0, none⟩,
   ⟨some 4, .assign (.const (.bool false)), 4, none⟩]
def r36_1 : List VOp :=
  [fad 6 35 2 0,
   lda 7 3 6,
   fad 8 35 3 0,
   lda 9 3 8,
   ⟨some 10, .binOp .neq 3 (.tmp 7) (.tmp 9) 3, 4, none⟩]
def r36_2 : List VOp :=
  [fad 11 35 2 0,
   lda 12 3 11,
   fad 13 35 3 0,
   lda 14 3 13,
   ⟨some 15, .binOp .lss 3 (.tmp 12) (.tmp 14) 3, 4, none⟩,
   asg 4 15 4]
def r36_3 : List VOp :=
  [⟨some 5, .assign (.const (.int .i64 0)), 3, none⟩]
def r36_4 : List VOp :=
  [mv 16 5 3,
   fad 17 35 2 1,
   lda 18 22 17,
   ⟨some 19, .call ⟨.builtin .len, #[.tmp 18], #[22]⟩, 3, none⟩,
   ⟨some 20, .binOp .lss 3 (.tmp 16) (.tmp 19) 3, 4, none⟩,
   mv 21 20 4,
   ⟨some 22, .move (.tmp 5), 3, some (21, true)⟩,
   ⟨some 23, .fieldAddr 35 (.tmp 3) 1, 0, some (21, true)⟩,
   ⟨some 24, .load 22 (.tmp 23), 22, some (21, true)⟩,
   ⟨some 25, .call ⟨.builtin .len, #[.tmp 24], #[22]⟩, 3, some (21, true)⟩,
   ⟨some 26, .binOp .lss 3 (.tmp 22) (.tmp 25) 3, 4, some (21, true)⟩,
   ⟨some 27, .pick (.tmp 21) (.tmp 26) (.const (.bool false)), 4, none⟩]
def r36_6 : List VOp :=
  [fad 30 35 2 1,
   lda 31 22 30,
   mv 32 5 3,
   iad 33 22 31 32,
   lda 34 9 33,
   fad 35 35 3 1,
   lda 36 22 35,
   mv 37 5 3,
   iad 38 22 36 37,
   lda 39 9 38,
   ⟨some 40, .binOp .neq 9 (.tmp 34) (.tmp 39) 9, 4, none⟩]
def r36_7 : List VOp :=
  [fad 41 35 2 1,
   lda 42 22 41,
   mv 43 5 3,
   iad 44 22 42 43,
   lda 45 9 44,
   fad 46 35 3 1,
   lda 47 22 46,
   mv 48 5 3,
   iad 49 22 47 48,
   lda 50 9 49,
   ⟨some 51, .binOp .lss 9 (.tmp 45) (.tmp 50) 9, 4, none⟩,
   asg 4 51 4]
def r36_5 : List VOp :=
  [mv 28 5 3,
   ⟨some 29, .binOp .add 3 (.tmp 28) (.const (.int .i64 1)) 3, 3, none⟩,
   asg 5 29 3]
def r36_8 : List VOp :=
  [⟨some 4, .assign (.const (.bool false)), 4, none⟩]
def B36 : VC :=
  (.seq (.region r36_0) (.seq (.seq (.region r36_1) (.cond (.tmp 10) (.seq (.region r36_2) .ret) .skip)) (.seq (.seq (.region r36_3) (.block 0 (.loop (.seq (.seq (.region r36_4) (.cond (.tmp 27) .skip (.exit 0))) (.seq (.block 1 (.seq (.draw r36_6 2) (.cond (.tmp 40) (.seq (.draw r36_7 3) .ret) .skip))) (.region r36_5)))))) (.seq (.region r36_8) .ret))))
theorem code36 : ∃ c, Try.f36.body = some c ∧ abs Try.f36.ntmps c = B36 := ⟨_, rfl, by kernel_rfl⟩
theorem hb36 : HasBody Try.prog 36 := hasBody_of Try.func36 (by kernel_rfl)
theorem res36 : Try.f36.results = #[(.tmp 4)] := rfl
theorem enter36 {w : World} {R : Value → World → Prop} (x0 x1 : Value) (h : vc Try.prog B36 (retK Try.prog #[(.tmp 4)] R) [] (initEnv [x0, x1] 0) w) : FnC Try.prog 36 #[x0, x1] w R := by
  obtain ⟨c, h1, h2⟩ := code36
  exact hb36.fn (ret_of_vc mixed Try.func36 h1 (Nat.le_of_ble_eq_true rfl) B36 h2 h)
@[push_cast] theorem vr36_0 : VR r36_0 [⟨some 2, .box 35 (.tmp 0), 0, none⟩, ⟨some 3, .box 35 (.tmp 1), 0, none⟩, ⟨some 4, .assign (.const (.bool false)), 4, none⟩] := vR rfl
@[push_cast] theorem vr36_1 : VR r36_1 [⟨some 6, .fieldAddr 35 (.tmp 2) 0, 0, none⟩, ⟨some 7, .load 3 (.tmp 6), 3, none⟩, ⟨some 8, .fieldAddr 35 (.tmp 3) 0, 0, none⟩, ⟨some 9, .load 3 (.tmp 8), 3, none⟩, ⟨some 10, .binOp .neq 3 (.tmp 7) (.tmp 9) 3, 4, none⟩] := vR rfl
@[push_cast] theorem vr36_2 : VR r36_2 [⟨some 11, .fieldAddr 35 (.tmp 2) 0, 0, none⟩, ⟨some 12, .load 3 (.tmp 11), 3, none⟩, ⟨some 13, .fieldAddr 35 (.tmp 3) 0, 0, none⟩, ⟨some 14, .load 3 (.tmp 13), 3, none⟩, ⟨some 15, .binOp .lss 3 (.tmp 12) (.tmp 14) 3, 4, none⟩, ⟨some 4, .assign (.tmp 15), 4, none⟩] := vR rfl
@[push_cast] theorem vr36_3 : VR r36_3 [⟨some 5, .assign (.const (.int .i64 0)), 3, none⟩] := vR rfl
@[push_cast] theorem vr36_4 : VR r36_4 [⟨some 16, .move (.tmp 5), 3, none⟩, ⟨some 17, .fieldAddr 35 (.tmp 2) 1, 0, none⟩, ⟨some 18, .load 22 (.tmp 17), 22, none⟩, ⟨some 19, .call ⟨.builtin .len, #[.tmp 18], #[22]⟩, 3, none⟩, ⟨some 20, .binOp .lss 3 (.tmp 16) (.tmp 19) 3, 4, none⟩, ⟨some 21, .move (.tmp 20), 4, none⟩, ⟨some 22, .move (.tmp 5), 3, some (21, true)⟩, ⟨some 23, .fieldAddr 35 (.tmp 3) 1, 0, some (21, true)⟩, ⟨some 24, .load 22 (.tmp 23), 22, some (21, true)⟩, ⟨some 25, .call ⟨.builtin .len, #[.tmp 24], #[22]⟩, 3, some (21, true)⟩, ⟨some 26, .binOp .lss 3 (.tmp 22) (.tmp 25) 3, 4, some (21, true)⟩, ⟨some 27, .pick (.tmp 21) (.tmp 26) (.const (.bool false)), 4, none⟩] := vR rfl
@[push_cast] theorem vr36_6 : vc Try.prog (.draw r36_6 2) Q ds σ w = drawn Try.prog [(⟨some 30, .fieldAddr 35 (.tmp 2) 1, 0, none⟩, [2]), (⟨some 31, .load 22 (.tmp 30), 22, none⟩, [30]), (⟨some 32, .move (.tmp 5), 3, none⟩, [5]), (⟨some 33, .indexAddr 22 (.tmp 31) (.tmp 32), 0, none⟩, [31, 32]), (⟨some 34, .load 9 (.tmp 33), 9, none⟩, [33]), (⟨some 35, .fieldAddr 35 (.tmp 3) 1, 0, none⟩, [3]), (⟨some 36, .load 22 (.tmp 35), 22, none⟩, [35]), (⟨some 37, .move (.tmp 5), 3, none⟩, [5]), (⟨some 38, .indexAddr 22 (.tmp 36) (.tmp 37), 0, none⟩, [36, 37]), (⟨some 39, .load 9 (.tmp 38), 9, none⟩, [38]), (⟨some 40, .binOp .neq 9 (.tmp 34) (.tmp 39) 9, 4, none⟩, [34, 39])] 2 (Q .normal ds) σ w := mk_eq rfl
@[push_cast] theorem vr36_7 : vc Try.prog (.draw r36_7 3) Q ds σ w = drawn Try.prog [(⟨some 41, .fieldAddr 35 (.tmp 2) 1, 0, none⟩, [2]), (⟨some 42, .load 22 (.tmp 41), 22, none⟩, [41]), (⟨some 43, .move (.tmp 5), 3, none⟩, [5]), (⟨some 44, .indexAddr 22 (.tmp 42) (.tmp 43), 0, none⟩, [42, 43]), (⟨some 45, .load 9 (.tmp 44), 9, none⟩, [44]), (⟨some 46, .fieldAddr 35 (.tmp 3) 1, 0, none⟩, [3]), (⟨some 47, .load 22 (.tmp 46), 22, none⟩, [46]), (⟨some 48, .move (.tmp 5), 3, none⟩, [5]), (⟨some 49, .indexAddr 22 (.tmp 47) (.tmp 48), 0, none⟩, [47, 48]), (⟨some 50, .load 9 (.tmp 49), 9, none⟩, [49]), (⟨some 51, .binOp .lss 9 (.tmp 45) (.tmp 50) 9, 4, none⟩, [45, 50]), (⟨some 4, .assign (.tmp 51), 4, none⟩, [51])] 3 (Q .normal ds) σ w := mk_eq rfl
@[push_cast] theorem vr36_5 : VR r36_5 [⟨some 28, .move (.tmp 5), 3, none⟩, ⟨some 29, .binOp .add 3 (.tmp 28) (.const (.int .i64 1)) 3, 3, none⟩, ⟨some 5, .assign (.tmp 29), 3, none⟩] := vR rfl
@[push_cast] theorem vr36_8 : VR r36_8 [⟨some 4, .assign (.const (.bool false)), 4, none⟩] := vR rfl
/-! 37 columbary/columbaryref13.Join (params #[35, 35], results #[(.cell 4 35), (.tmp 5)], 67 slots) -/
def W37_0 : List Nat := [5, 8, 9, 10, 36, 37, 38, 39, 40, 41, 42, 43, 44, 45, 46, 47, 48, 49, 50, 51, 52, 53, 54, 55, 56, 57, 58, 59, 60, 61, 62, 63, 64, 65]
@[push_cast] theorem W37_0_def : W37_0 = [5, 8, 9, 10, 36, 37, 38, 39, 40, 41, 42, 43, 44, 45, 46, 47, 48, 49, 50, 51, 52, 53, 54, 55, 56, 57, 58, 59, 60, 61, 62, 63, 64, 65] := mk_eq rfl
def r37_0 : List VOp :=
  [⟨some 2, .box 35 (.tmp 0), 0, none⟩,
   ⟨some 3, .box 35 (.tmp 1), 0, none⟩,
   ⟨some 4, .alloc 35, 0, none⟩,
   ⟨some 5, .assign (.const (.int .i64 0)), 28, none⟩]
def r37_1 : List VOp :=
  [lda 11 35 2,
   lda 12 35 3,
   ⟨some 13, .call ⟨.value (.func 45), #[.tmp 11, .tmp 12], #[35, 35]⟩, 4, none⟩,
   asg 6 13 4]
def r37_2 : List VOp :=
  [mv 14 6 4,
   ⟨some 15, .unOp .not 4 (.tmp 14), 4, none⟩]
def r37_3 : List VOp :=
  [⟨some 16, .build 35 #[], 35, none⟩,
   ⟨none, .store 35 (.tmp 4) (.tmp 16), 0, none⟩,
   ⟨some 5, .assign (.const (.int .i64 131)), 28, none⟩]
def r37_4 : List VOp :=
  [fad 17 35 2 2,
   lda 18 3 17,
   fad 19 35 3 2,
   lda 20 3 19,
   ⟨some 21, .binOp .add 3 (.tmp 18) (.tmp 20) 3, 3, none⟩,
   ⟨some 22, .binOp .gtr 3 (.tmp 21) (.const (.int .i64 1048576)) 3, 4, none⟩]
def r37_5 : List VOp :=
  [⟨some 23, .build 35 #[], 35, none⟩,
   ⟨none, .store 35 (.tmp 4) (.tmp 23), 0, none⟩,
   ⟨some 5, .assign (.const (.int .i64 121)), 28, none⟩]
def r37_6 : List VOp :=
  [fad 24 35 2 0,
   lda 25 3 24,
   ⟨some 26, .buildSlice 22 0 #[], 22, none⟩,
   fad 27 35 2 1,
   lda 28 22 27,
   ⟨some 29, .call ⟨.builtin .append, #[.tmp 26, .tmp 28], #[22, 22]⟩, 22, none⟩,
   fad 30 35 2 2,
   lda 31 3 30,
   fad 32 35 3 2,
   lda 33 3 32,
   ⟨some 34, .binOp .add 3 (.tmp 31) (.tmp 33) 3, 3, none⟩,
   ⟨some 35, .build 35 #[(0, (.tmp 25)), (1, (.tmp 29)), (2, (.tmp 34))], 35, none⟩,
   ⟨some 7, .alloc 35, 0, none⟩,
   ⟨none, .store 35 (.tmp 7) (.tmp 35), 0, none⟩]
def r37_7 : List VOp :=
  [⟨some 8, .assign (.const (.int .i64 0)), 3, none⟩]
def r37_8 : List VOp :=
  [mv 36 8 3,
   fad 37 35 2 3,
   lda 38 33 37,
   ⟨some 39, .call ⟨.builtin .len, #[.tmp 38], #[33]⟩, 3, none⟩,
   ⟨some 40, .binOp .lss 3 (.tmp 36) (.tmp 39) 3, 4, none⟩]
def r37_10 : List VOp :=
  [fad 44 35 2 3,
   lda 45 33 44,
   mv 46 8 3,
   iad 47 33 45 46,
   lda 48 64 47,
   fad 49 35 3 3,
   lda 50 33 49,
   mv 51 8 3,
   iad 52 33 50 51,
   lda 53 64 52,
   ⟨some 54, .call ⟨.value (.func 75), #[.tmp 48, .tmp 53], #[64, 64]⟩, 78, none⟩,
   mv 43 54 78,
   ext 55 43 0 64,
   ext 56 43 1 28,
   ⟨some 9, .alloc 64, 0, none⟩,
   ⟨none, .store 64 (.tmp 9) (.tmp 55), 0, none⟩,
   asg 10 56 28]
def r37_11 : List VOp :=
  [mv 57 10 28,
   ⟨some 58, .binOp .neq 28 (.tmp 57) (.const (.int .i64 0)) 28, 4, none⟩]
def r37_12 : List VOp :=
  [⟨some 59, .build 35 #[], 35, none⟩,
   ⟨none, .store 35 (.tmp 4) (.tmp 59), 0, none⟩,
   ⟨some 5, .assign (.const (.int .i64 121)), 28, none⟩]
def r37_13 : List VOp :=
  [fad 60 35 7 3,
   lda 61 33 60,
   lda 62 64 9,
   ⟨some 63, .buildSlice 33 1 #[(0, (.tmp 62))], 33, none⟩,
   ⟨some 64, .call ⟨.builtin .append, #[.tmp 61, .tmp 63], #[33, 33]⟩, 33, none⟩,
   fad 65 35 7 3,
   ⟨none, .store 33 (.tmp 65) (.tmp 64), 0, none⟩]
def r37_9 : List VOp :=
  [mv 41 8 3,
   ⟨some 42, .binOp .add 3 (.tmp 41) (.const (.int .i64 1)) 3, 3, none⟩,
   asg 8 42 3]
def r37_14 : List VOp :=
  [lda 66 35 7,
   ⟨none, .store 35 (.tmp 4) (.tmp 66), 0, none⟩,
   ⟨some 5, .assign (.const (.int .i64 0)), 28, none⟩]
def B37 : VC :=
  (.seq (.region r37_0) (.seq (.region r37_1) (.seq (.seq (.region r37_2) (.cond (.tmp 15) (.seq (.region r37_3) .ret) .skip)) (.seq (.seq (.region r37_4) (.cond (.tmp 22) (.seq (.region r37_5) .ret) .skip)) (.seq (.draw r37_6 2) (.seq (.seq (.region r37_7) (.block 0 (.loop (.seq (.seq (.region r37_8) (.cond (.tmp 40) .skip (.exit 0))) (.seq (.block 1 (.seq (.drawS r37_10 2 [56]) (.seq (.seq (.region r37_11) (.cond (.tmp 58) (.seq (.region r37_12) .ret) .skip)) (.region r37_13)))) (.region r37_9)))))) (.seq (.region r37_14) .ret)))))))
theorem code37 : ∃ c, Try.f37.body = some c ∧ abs Try.f37.ntmps c = B37 := ⟨_, rfl, by kernel_rfl⟩
theorem hb37 : HasBody Try.prog 37 := hasBody_of Try.func37 (by kernel_rfl)
theorem res37 : Try.f37.results = #[(.cell 4 35), (.tmp 5)] := rfl
theorem enter37 {w : World} {R : Value → World → Prop} (x0 x1 : Value) (h : vc Try.prog B37 (retK Try.prog #[(.cell 4 35), (.tmp 5)] R) [] (initEnv [x0, x1] 0) w) : FnC Try.prog 37 #[x0, x1] w R := by
  obtain ⟨c, h1, h2⟩ := code37
  exact hb37.fn (ret_of_vc mixed Try.func37 h1 (Nat.le_of_ble_eq_true rfl) B37 h2 h)
@[push_cast] theorem vr37_0 : VR r37_0 [⟨some 2, .box 35 (.tmp 0), 0, none⟩, ⟨some 3, .box 35 (.tmp 1), 0, none⟩, ⟨some 4, .alloc 35, 0, none⟩, ⟨some 5, .assign (.const (.int .i64 0)), 28, none⟩] := vR rfl
@[push_cast] theorem vr37_1 : VR r37_1 [⟨some 11, .load 35 (.tmp 2), 35, none⟩, ⟨some 12, .load 35 (.tmp 3), 35, none⟩, ⟨some 13, .call ⟨.value (.func 45), #[.tmp 11, .tmp 12], #[35, 35]⟩, 4, none⟩, ⟨some 6, .assign (.tmp 13), 4, none⟩] := vR rfl
@[push_cast] theorem vr37_2 : VR r37_2 [⟨some 14, .move (.tmp 6), 4, none⟩, ⟨some 15, .unOp .not 4 (.tmp 14), 4, none⟩] := vR rfl
@[push_cast] theorem vr37_3 : VR r37_3 [⟨some 16, .build 35 #[], 35, none⟩, ⟨none, .store 35 (.tmp 4) (.tmp 16), 0, none⟩, ⟨some 5, .assign (.const (.int .i64 131)), 28, none⟩] := vR rfl
@[push_cast] theorem vr37_4 : VR r37_4 [⟨some 17, .fieldAddr 35 (.tmp 2) 2, 0, none⟩, ⟨some 18, .load 3 (.tmp 17), 3, none⟩, ⟨some 19, .fieldAddr 35 (.tmp 3) 2, 0, none⟩, ⟨some 20, .load 3 (.tmp 19), 3, none⟩, ⟨some 21, .binOp .add 3 (.tmp 18) (.tmp 20) 3, 3, none⟩, ⟨some 22, .binOp .gtr 3 (.tmp 21) (.const (.int .i64 1048576)) 3, 4, none⟩] := vR rfl
@[push_cast] theorem vr37_5 : VR r37_5 [⟨some 23, .build 35 #[], 35, none⟩, ⟨none, .store 35 (.tmp 4) (.tmp 23), 0, none⟩, ⟨some 5, .assign (.const (.int .i64 121)), 28, none⟩] := vR rfl
@[push_cast] theorem vr37_6 : vc Try.prog (.draw r37_6 2) Q ds σ w = drawn Try.prog [(⟨some 24, .fieldAddr 35 (.tmp 2) 0, 0, none⟩, [2]), (⟨some 25, .load 3 (.tmp 24), 3, none⟩, [24]), (⟨some 26, .buildSlice 22 0 #[], 22, none⟩, []), (⟨some 27, .fieldAddr 35 (.tmp 2) 1, 0, none⟩, [2]), (⟨some 28, .load 22 (.tmp 27), 22, none⟩, [27]), (⟨some 29, .call ⟨.builtin .append, #[.tmp 26, .tmp 28], #[22, 22]⟩, 22, none⟩, [26, 28]), (⟨some 30, .fieldAddr 35 (.tmp 2) 2, 0, none⟩, [2]), (⟨some 31, .load 3 (.tmp 30), 3, none⟩, [30]), (⟨some 32, .fieldAddr 35 (.tmp 3) 2, 0, none⟩, [3]), (⟨some 33, .load 3 (.tmp 32), 3, none⟩, [32]), (⟨some 34, .binOp .add 3 (.tmp 31) (.tmp 33) 3, 3, none⟩, [31, 33]), (⟨some 35, .build 35 #[(0, (.tmp 25)), (1, (.tmp 29)), (2, (.tmp 34))], 35, none⟩, [25, 29, 34]), (⟨some 7, .alloc 35, 0, none⟩, []), (⟨none, .store 35 (.tmp 7) (.tmp 35), 0, none⟩, [7, 35])] 2 (Q .normal ds) σ w := mk_eq rfl
@[push_cast] theorem vr37_7 : VR r37_7 [⟨some 8, .assign (.const (.int .i64 0)), 3, none⟩] := vR rfl
@[push_cast] theorem vr37_8 : VR r37_8 [⟨some 36, .move (.tmp 8), 3, none⟩, ⟨some 37, .fieldAddr 35 (.tmp 2) 3, 0, none⟩, ⟨some 38, .load 33 (.tmp 37), 33, none⟩, ⟨some 39, .call ⟨.builtin .len, #[.tmp 38], #[33]⟩, 3, none⟩, ⟨some 40, .binOp .lss 3 (.tmp 36) (.tmp 39) 3, 4, none⟩] := vR rfl
@[push_cast] theorem vr37_10 : vc Try.prog (.drawS r37_10 2 [56]) Q ds σ w = drawnS Try.prog [(⟨some 44, .fieldAddr 35 (.tmp 2) 3, 0, none⟩, [2]), (⟨some 45, .load 33 (.tmp 44), 33, none⟩, [44]), (⟨some 46, .move (.tmp 8), 3, none⟩, [8]), (⟨some 47, .indexAddr 33 (.tmp 45) (.tmp 46), 0, none⟩, [45, 46]), (⟨some 48, .load 64 (.tmp 47), 64, none⟩, [47]), (⟨some 49, .fieldAddr 35 (.tmp 3) 3, 0, none⟩, [3]), (⟨some 50, .load 33 (.tmp 49), 33, none⟩, [49]), (⟨some 51, .move (.tmp 8), 3, none⟩, [8]), (⟨some 52, .indexAddr 33 (.tmp 50) (.tmp 51), 0, none⟩, [50, 51]), (⟨some 53, .load 64 (.tmp 52), 64, none⟩, [52]), (⟨some 54, .call ⟨.value (.func 75), #[.tmp 48, .tmp 53], #[64, 64]⟩, 78, none⟩, [48, 53]), (⟨some 43, .move (.tmp 54), 78, none⟩, [54]), (⟨some 55, .extract (.tmp 43) 0, 64, none⟩, [43]), (⟨some 56, .extract (.tmp 43) 1, 28, none⟩, [43]), (⟨some 9, .alloc 64, 0, none⟩, []), (⟨none, .store 64 (.tmp 9) (.tmp 55), 0, none⟩, [9, 55]), (⟨some 10, .assign (.tmp 56), 28, none⟩, [56])] 2 [56] (Q .normal ds) σ w := mk_eq rfl
@[push_cast] theorem vr37_11 : VR r37_11 [⟨some 57, .move (.tmp 10), 28, none⟩, ⟨some 58, .binOp .neq 28 (.tmp 57) (.const (.int .i64 0)) 28, 4, none⟩] := vR rfl
@[push_cast] theorem vr37_12 : VR r37_12 [⟨some 59, .build 35 #[], 35, none⟩, ⟨none, .store 35 (.tmp 4) (.tmp 59), 0, none⟩, ⟨some 5, .assign (.const (.int .i64 121)), 28, none⟩] := vR rfl
@[push_cast] theorem vr37_13 : VR r37_13 [⟨some 60, .fieldAddr 35 (.tmp 7) 3, 0, none⟩, ⟨some 61, .load 33 (.tmp 60), 33, none⟩, ⟨some 62, .load 64 (.tmp 9), 64, none⟩, ⟨some 63, .buildSlice 33 1 #[(0, (.tmp 62))], 33, none⟩, ⟨some 64, .call ⟨.builtin .append, #[.tmp 61, .tmp 63], #[33, 33]⟩, 33, none⟩, ⟨some 65, .fieldAddr 35 (.tmp 7) 3, 0, none⟩, ⟨none, .store 33 (.tmp 65) (.tmp 64), 0, none⟩] := vR rfl
@[push_cast] theorem vr37_9 : VR r37_9 [⟨some 41, .move (.tmp 8), 3, none⟩, ⟨some 42, .binOp .add 3 (.tmp 41) (.const (.int .i64 1)) 3, 3, none⟩, ⟨some 8, .assign (.tmp 42), 3, none⟩] := vR rfl
@[push_cast] theorem vr37_14 : VR r37_14 [⟨some 66, .load 35 (.tmp 7), 35, none⟩, ⟨none, .store 35 (.tmp 4) (.tmp 66), 0, none⟩, ⟨some 5, .assign (.const (.int .i64 0)), 28, none⟩] := vR rfl
/-! 39 columbary/columbaryref10.Right (params #[24], results #[(.tmp 2)], 57 slots) -/
def W39_0 : List Nat := [2, 4, 5, 6, 14, 15, 16, 17, 18, 19, 20, 21, 22, 23, 24, 25, 26, 27, 28, 29, 30, 31, 32, 33, 34, 35, 36, 37, 38, 39, 40]
@[push_cast] theorem W39_0_def : W39_0 = [2, 4, 5, 6, 14, 15, 16, 17, 18, 19, 20, 21, 22, 23, 24, 25, 26, 27, 28, 29, 30, 31, 32, 33, 34, 35, 36, 37, 38, 39, 40] := mk_eq rfl
def W39_1 : List Nat := [2, 6, 27, 28, 29, 30, 31, 32, 33, 34, 35, 36, 37, 38, 39, 40]
@[push_cast] theorem W39_1_def : W39_1 = [2, 6, 27, 28, 29, 30, 31, 32, 33, 34, 35, 36, 37, 38, 39, 40] := mk_eq rfl
def r39_0 : List VOp :=
  [⟨some 1, .box 24 (.tmp 0), 0, none⟩,
   ⟨some 2, .assign (.const (.bool false)), 4, none⟩]
def r39_1 : List VOp :=
  [⟨some 7, .buildSlice 22 0 #[], 22, none⟩,
   fad 8 24 1 0,
   lda 9 22 8,
   ⟨some 10, .call ⟨.builtin .append, #[.tmp 7, .tmp 9], #[22, 22]⟩, 22, none⟩,
   fad 11 24 1 1,
   lda 12 22 11,
   ⟨some 13, .call ⟨.builtin .append, #[.tmp 10, .tmp 12], #[22, 22]⟩, 22, none⟩,
   asg 3 13 22]
def r39_2 : List VOp :=
  [⟨some 4, .assign (.const (.int .i64 0)), 3, none⟩]
def r39_3 : List VOp :=
  [mv 14 4 3,
   mv 15 3 22,
   ⟨some 16, .call ⟨.builtin .len, #[.tmp 15], #[22]⟩, 3, none⟩,
   ⟨some 17, .binOp .lss 3 (.tmp 14) (.tmp 16) 3, 4, none⟩]
def r39_5 : List VOp :=
  [mv 20 3 22,
   mv 21 4 3,
   iad 22 22 20 21,
   lda 23 9 22,
   ⟨some 24, .call ⟨.value (.func 79), #[.tmp 23], #[9]⟩, 4, none⟩,
   asg 5 24 4]
def r39_6 : List VOp :=
  [mv 25 5 4,
   ⟨some 26, .unOp .not 4 (.tmp 25), 4, none⟩]
def r39_7 : List VOp :=
  [⟨some 2, .assign (.const (.bool false)), 4, none⟩]
def r39_8 : List VOp :=
  [⟨some 6, .assign (.const (.int .i64 0)), 3, none⟩]
def r39_9 : List VOp :=
  [mv 27 6 3,
   mv 28 4 3,
   ⟨some 29, .binOp .lss 3 (.tmp 27) (.tmp 28) 3, 4, none⟩]
def r39_11 : List VOp :=
  [mv 32 3 22,
   mv 33 6 3,
   iad 34 22 32 33,
   lda 35 9 34,
   mv 36 3 22,
   mv 37 4 3,
   iad 38 22 36 37,
   lda 39 9 38,
   ⟨some 40, .binOp .eql 9 (.tmp 35) (.tmp 39) 9, 4, none⟩]
def r39_12 : List VOp :=
  [⟨some 2, .assign (.const (.bool false)), 4, none⟩]
def r39_10 : List VOp :=
  [mv 30 6 3,
   ⟨some 31, .binOp .add 3 (.tmp 30) (.const (.int .i64 1)) 3, 3, none⟩,
   asg 6 31 3]
def r39_4 : List VOp :=
  [mv 18 4 3,
   ⟨some 19, .binOp .add 3 (.tmp 18) (.const (.int .i64 1)) 3, 3, none⟩,
   asg 4 19 3]
def r39_13 : List VOp :=
  [fad 41 24 1 0,
   lda 42 22 41,
   ⟨some 43, .call ⟨.builtin .len, #[.tmp 42], #[22]⟩, 3, none⟩,
   ⟨some 44, .binOp .geq 3 (.tmp 43) (.const (.int .i64 1)) 3, 4, none⟩,
   mv 45 44 4,
   ⟨some 46, .fieldAddr 24 (.tmp 1) 0, 0, some (45, true)⟩,
   ⟨some 47, .load 22 (.tmp 46), 22, some (45, true)⟩,
   ⟨some 48, .call ⟨.builtin .len, #[.tmp 47], #[22]⟩, 3, some (45, true)⟩,
   ⟨some 49, .binOp .leq 3 (.tmp 48) (.const (.int .i64 6)) 3, 4, some (45, true)⟩,
   ⟨some 50, .pick (.tmp 45) (.tmp 49) (.const (.bool false)), 4, none⟩,
   mv 51 50 4,
   ⟨some 52, .fieldAddr 24 (.tmp 1) 1, 0, some (51, true)⟩,
   ⟨some 53, .load 22 (.tmp 52), 22, some (51, true)⟩,
   ⟨some 54, .call ⟨.builtin .len, #[.tmp 53], #[22]⟩, 3, some (51, true)⟩,
   ⟨some 55, .binOp .leq 3 (.tmp 54) (.const (.int .i64 4)) 3, 4, some (51, true)⟩,
   ⟨some 56, .pick (.tmp 51) (.tmp 55) (.const (.bool false)), 4, none⟩,
   asg 2 56 4]
def B39 : VC :=
  (.seq (.region r39_0) (.seq (.draw r39_1 3) (.seq (.seq (.region r39_2) (.block 0 (.loop (.seq (.seq (.region r39_3) (.cond (.tmp 17) .skip (.exit 0))) (.seq (.block 1 (.seq (.region r39_5) (.seq (.seq (.region r39_6) (.cond (.tmp 26) (.seq (.region r39_7) .ret) .skip)) (.seq (.region r39_8) (.block 2 (.loop (.seq (.seq (.region r39_9) (.cond (.tmp 29) .skip (.exit 2))) (.seq (.block 3 (.seq (.draw r39_11 2) (.cond (.tmp 40) (.seq (.region r39_12) .ret) .skip))) (.region r39_10))))))))) (.region r39_4)))))) (.seq (.region r39_13) .ret))))
theorem code39 : ∃ c, Try.f39.body = some c ∧ abs Try.f39.ntmps c = B39 := ⟨_, rfl, by kernel_rfl⟩
theorem hb39 : HasBody Try.prog 39 := hasBody_of Try.func39 (by kernel_rfl)
theorem res39 : Try.f39.results = #[(.tmp 2)] := rfl
theorem enter39 {w : World} {R : Value → World → Prop} (x0 : Value) (h : vc Try.prog B39 (retK Try.prog #[(.tmp 2)] R) [] (initEnv [x0] 0) w) : FnC Try.prog 39 #[x0] w R := by
  obtain ⟨c, h1, h2⟩ := code39
  exact hb39.fn (ret_of_vc mixed Try.func39 h1 (Nat.le_of_ble_eq_true rfl) B39 h2 h)
@[push_cast] theorem vr39_0 : VR r39_0 [⟨some 1, .box 24 (.tmp 0), 0, none⟩, ⟨some 2, .assign (.const (.bool false)), 4, none⟩] := vR rfl
@[push_cast] theorem vr39_1 : vc Try.prog (.draw r39_1 3) Q ds σ w = drawn Try.prog [(⟨some 7, .buildSlice 22 0 #[], 22, none⟩, []), (⟨some 8, .fieldAddr 24 (.tmp 1) 0, 0, none⟩, [1]), (⟨some 9, .load 22 (.tmp 8), 22, none⟩, [8]), (⟨some 10, .call ⟨.builtin .append, #[.tmp 7, .tmp 9], #[22, 22]⟩, 22, none⟩, [7, 9]), (⟨some 11, .fieldAddr 24 (.tmp 1) 1, 0, none⟩, [1]), (⟨some 12, .load 22 (.tmp 11), 22, none⟩, [11]), (⟨some 13, .call ⟨.builtin .append, #[.tmp 10, .tmp 12], #[22, 22]⟩, 22, none⟩, [10, 12]), (⟨some 3, .assign (.tmp 13), 22, none⟩, [13])] 3 (Q .normal ds) σ w := mk_eq rfl
@[push_cast] theorem vr39_2 : VR r39_2 [⟨some 4, .assign (.const (.int .i64 0)), 3, none⟩] := vR rfl
@[push_cast] theorem vr39_3 : VR r39_3 [⟨some 14, .move (.tmp 4), 3, none⟩, ⟨some 15, .move (.tmp 3), 22, none⟩, ⟨some 16, .call ⟨.builtin .len, #[.tmp 15], #[22]⟩, 3, none⟩, ⟨some 17, .binOp .lss 3 (.tmp 14) (.tmp 16) 3, 4, none⟩] := vR rfl
@[push_cast] theorem vr39_5 : VR r39_5 [⟨some 20, .move (.tmp 3), 22, none⟩, ⟨some 21, .move (.tmp 4), 3, none⟩, ⟨some 22, .indexAddr 22 (.tmp 20) (.tmp 21), 0, none⟩, ⟨some 23, .load 9 (.tmp 22), 9, none⟩, ⟨some 24, .call ⟨.value (.func 79), #[.tmp 23], #[9]⟩, 4, none⟩, ⟨some 5, .assign (.tmp 24), 4, none⟩] := vR rfl
@[push_cast] theorem vr39_6 : VR r39_6 [⟨some 25, .move (.tmp 5), 4, none⟩, ⟨some 26, .unOp .not 4 (.tmp 25), 4, none⟩] := vR rfl
@[push_cast] theorem vr39_7 : VR r39_7 [⟨some 2, .assign (.const (.bool false)), 4, none⟩] := vR rfl
@[push_cast] theorem vr39_8 : VR r39_8 [⟨some 6, .assign (.const (.int .i64 0)), 3, none⟩] := vR rfl
@[push_cast] theorem vr39_9 : VR r39_9 [⟨some 27, .move (.tmp 6), 3, none⟩, ⟨some 28, .move (.tmp 4), 3, none⟩, ⟨some 29, .binOp .lss 3 (.tmp 27) (.tmp 28) 3, 4, none⟩] := vR rfl
@[push_cast] theorem vr39_11 : vc Try.prog (.draw r39_11 2) Q ds σ w = drawn Try.prog [(⟨some 32, .move (.tmp 3), 22, none⟩, [3]), (⟨some 33, .move (.tmp 6), 3, none⟩, [6]), (⟨some 34, .indexAddr 22 (.tmp 32) (.tmp 33), 0, none⟩, [32, 33]), (⟨some 35, .load 9 (.tmp 34), 9, none⟩, [34]), (⟨some 36, .move (.tmp 3), 22, none⟩, [3]), (⟨some 37, .move (.tmp 4), 3, none⟩, [4]), (⟨some 38, .indexAddr 22 (.tmp 36) (.tmp 37), 0, none⟩, [36, 37]), (⟨some 39, .load 9 (.tmp 38), 9, none⟩, [38]), (⟨some 40, .binOp .eql 9 (.tmp 35) (.tmp 39) 9, 4, none⟩, [35, 39])] 2 (Q .normal ds) σ w := mk_eq rfl
@[push_cast] theorem vr39_12 : VR r39_12 [⟨some 2, .assign (.const (.bool false)), 4, none⟩] := vR rfl
@[push_cast] theorem vr39_10 : VR r39_10 [⟨some 30, .move (.tmp 6), 3, none⟩, ⟨some 31, .binOp .add 3 (.tmp 30) (.const (.int .i64 1)) 3, 3, none⟩, ⟨some 6, .assign (.tmp 31), 3, none⟩] := vR rfl
@[push_cast] theorem vr39_4 : VR r39_4 [⟨some 18, .move (.tmp 4), 3, none⟩, ⟨some 19, .binOp .add 3 (.tmp 18) (.const (.int .i64 1)) 3, 3, none⟩, ⟨some 4, .assign (.tmp 19), 3, none⟩] := vR rfl
@[push_cast] theorem vr39_13 : VR r39_13 [⟨some 41, .fieldAddr 24 (.tmp 1) 0, 0, none⟩, ⟨some 42, .load 22 (.tmp 41), 22, none⟩, ⟨some 43, .call ⟨.builtin .len, #[.tmp 42], #[22]⟩, 3, none⟩, ⟨some 44, .binOp .geq 3 (.tmp 43) (.const (.int .i64 1)) 3, 4, none⟩, ⟨some 45, .move (.tmp 44), 4, none⟩, ⟨some 46, .fieldAddr 24 (.tmp 1) 0, 0, some (45, true)⟩, ⟨some 47, .load 22 (.tmp 46), 22, some (45, true)⟩, ⟨some 48, .call ⟨.builtin .len, #[.tmp 47], #[22]⟩, 3, some (45, true)⟩, ⟨some 49, .binOp .leq 3 (.tmp 48) (.const (.int .i64 6)) 3, 4, some (45, true)⟩, ⟨some 50, .pick (.tmp 45) (.tmp 49) (.const (.bool false)), 4, none⟩, ⟨some 51, .move (.tmp 50), 4, none⟩, ⟨some 52, .fieldAddr 24 (.tmp 1) 1, 0, some (51, true)⟩, ⟨some 53, .load 22 (.tmp 52), 22, some (51, true)⟩, ⟨some 54, .call ⟨.builtin .len, #[.tmp 53], #[22]⟩, 3, some (51, true)⟩, ⟨some 55, .binOp .leq 3 (.tmp 54) (.const (.int .i64 4)) 3, 4, some (51, true)⟩, ⟨some 56, .pick (.tmp 51) (.tmp 55) (.const (.bool false)), 4, none⟩, ⟨some 2, .assign (.tmp 56), 4, none⟩] := vR rfl
/-! 45 columbary/columbaryref13.OneKey (params #[35, 35], results #[(.tmp 4)], 19 slots) -/
def r45_0 : List VOp :=
  [⟨some 2, .box 35 (.tmp 0), 0, none⟩,
   ⟨some 3, .box 35 (.tmp 1), 0, none⟩,
   ⟨some 4, .assign (.const (.bool false)), 4, none⟩]
def r45_1 : List VOp :=
  [fad 6 35 2 1,
   lda 7 22 6,
   fad 8 35 3 1,
   lda 9 22 8,
   ⟨some 10, .call ⟨.value (.func 21), #[.tmp 7, .tmp 9], #[22, 22]⟩, 4, none⟩,
   asg 5 10 4]
def r45_2 : List VOp :=
  [mv 11 5 4,
   mv 12 11 4,
   ⟨some 13, .fieldAddr 35 (.tmp 2) 0, 0, some (12, true)⟩,
   ⟨some 14, .load 3 (.tmp 13), 3, some (12, true)⟩,
   ⟨some 15, .fieldAddr 35 (.tmp 3) 0, 0, some (12, true)⟩,
   ⟨some 16, .load 3 (.tmp 15), 3, some (12, true)⟩,
   ⟨some 17, .binOp .eql 3 (.tmp 14) (.tmp 16) 3, 4, some (12, true)⟩,
   ⟨some 18, .pick (.tmp 12) (.tmp 17) (.const (.bool false)), 4, none⟩,
   asg 4 18 4]
def B45 : VC :=
  (.seq (.region r45_0) (.seq (.region r45_1) (.seq (.region r45_2) .ret)))
theorem code45 : ∃ c, Try.f45.body = some c ∧ abs Try.f45.ntmps c = B45 := ⟨_, rfl, by kernel_rfl⟩
theorem hb45 : HasBody Try.prog 45 := hasBody_of Try.func45 (by kernel_rfl)
theorem res45 : Try.f45.results = #[(.tmp 4)] := rfl
theorem enter45 {w : World} {R : Value → World → Prop} (x0 x1 : Value) (h : vc Try.prog B45 (retK Try.prog #[(.tmp 4)] R) [] (initEnv [x0, x1] 0) w) : FnC Try.prog 45 #[x0, x1] w R := by
  obtain ⟨c, h1, h2⟩ := code45
  exact hb45.fn (ret_of_vc mixed Try.func45 h1 (Nat.le_of_ble_eq_true rfl) B45 h2 h)
@[push_cast] theorem vr45_0 : VR r45_0 [⟨some 2, .box 35 (.tmp 0), 0, none⟩, ⟨some 3, .box 35 (.tmp 1), 0, none⟩, ⟨some 4, .assign (.const (.bool false)), 4, none⟩] := vR rfl
@[push_cast] theorem vr45_1 : VR r45_1 [⟨some 6, .fieldAddr 35 (.tmp 2) 1, 0, none⟩, ⟨some 7, .load 22 (.tmp 6), 22, none⟩, ⟨some 8, .fieldAddr 35 (.tmp 3) 1, 0, none⟩, ⟨some 9, .load 22 (.tmp 8), 22, none⟩, ⟨some 10, .call ⟨.value (.func 21), #[.tmp 7, .tmp 9], #[22, 22]⟩, 4, none⟩, ⟨some 5, .assign (.tmp 10), 4, none⟩] := vR rfl
@[push_cast] theorem vr45_2 : VR r45_2 [⟨some 11, .move (.tmp 5), 4, none⟩, ⟨some 12, .move (.tmp 11), 4, none⟩, ⟨some 13, .fieldAddr 35 (.tmp 2) 0, 0, some (12, true)⟩, ⟨some 14, .load 3 (.tmp 13), 3, some (12, true)⟩, ⟨some 15, .fieldAddr 35 (.tmp 3) 0, 0, some (12, true)⟩, ⟨some 16, .load 3 (.tmp 15), 3, some (12, true)⟩, ⟨some 17, .binOp .eql 3 (.tmp 14) (.tmp 16) 3, 4, some (12, true)⟩, ⟨some 18, .pick (.tmp 12) (.tmp 17) (.const (.bool false)), 4, none⟩, ⟨some 4, .assign (.tmp 18), 4, none⟩] := vR rfl
@[push_cast] theorem bsl22_0_CodesW {K : Value → World → Prop} {w : World}  : vBuildSlice Try.prog 22 0 #[] K w = K (.slice (some ⟨w.heap.size, 0, none⟩) 0 0) (w.alloc (.cells #[] 9)) :=
  vBuildSlice_ok Try.underlying22 ti9 (by kernel_rfl) (by decide)
@[push_cast] theorem bsl25_0_CodesW {K : Value → World → Prop} {w : World}  : vBuildSlice Try.prog 25 0 #[] K w = K (.slice (some ⟨w.heap.size, 0, none⟩) 0 0) (w.alloc (.cells #[] 35)) :=
  vBuildSlice_ok Try.underlying25 ti35 (by kernel_rfl) (by decide)
@[push_cast] theorem bsl25_1_CodesW {K : Value → World → Prop} {w : World} (x00 x01 x02 x03 : Value) : vBuildSlice Try.prog 25 1 #[(0, (.agg #[x00, x01, x02, x03]))] K w = K (.slice (some ⟨w.heap.size, 0, none⟩) 1 1) (w.alloc (.cells #[x00, x01, x02, x03] 35)) :=
  vBuildSlice_ok Try.underlying25 ti35 (by kernel_rfl) (by decide)
@[push_cast] theorem bsl33_1_CodesW {K : Value → World → Prop} {w : World} (x00 x01 x02 : Value) : vBuildSlice Try.prog 33 1 #[(0, (.agg #[x00, x01, x02]))] K w = K (.slice (some ⟨w.heap.size, 0, none⟩) 1 1) (w.alloc (.cells #[x00, x01, x02] 64)) :=
  vBuildSlice_ok Try.underlying33 ti64 (by kernel_rfl) (by decide)
@[push_cast] theorem bsl47_2_CodesW {K : Value → World → Prop} {w : World} (x0 : Int) (x1 : Int) : vBuildSlice Try.prog 47 2 #[(0, (.int .i64 x0)), (1, (.int .i64 x1))] K w = K (.slice (some ⟨w.heap.size, 0, none⟩) 2 2) (w.alloc (.cells #[(.int .i64 x0), (.int .i64 x1)] 3)) :=
  vBuildSlice_ok Try.underlying47 ti3 (by kernel_rfl) (by decide)
@[push_cast] theorem bld35__CodesW {K : Value → World → Prop} {w : World}  : vBuild Try.prog 35 #[] K w = K (.agg #[(.int .i64 0), (.slice none 0 0), (.int .i64 0), (.slice none 0 0)]) w :=
  vBuild_ok (by kernel_rfl)
@[push_cast] theorem bld35_0_1_2_CodesW {K : Value → World → Prop} {w : World} (x0 : Int) (x1o : Option Addr) (x1n x1c : Nat) (x2 : Int) : vBuild Try.prog 35 #[(0, (.int .i64 x0)), (1, (.slice x1o x1n x1c)), (2, (.int .i64 x2))] K w = K (.agg #[(.int .i64 x0), (.slice x1o x1n x1c), (.int .i64 x2), (.slice none 0 0)]) w :=
  vBuild_ok (by kernel_rfl)
end Go.Proofs.Ythihbgpaoldbjaa
end
