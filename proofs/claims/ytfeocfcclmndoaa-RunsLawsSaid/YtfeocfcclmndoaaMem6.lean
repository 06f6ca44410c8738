/- Pairs of whole numbers in slices; loops over functions: their records. -/
import Derived.Test.YtfeocfcclmndoaaMem5
import Derived.Test.YtfeocfcclmndoaaMem3
import Derived.Laws.StructEq
namespace Go.Vc
open Go.RowKit
theorem chg_putObj (w : World) {L : Nat} {ks : List Nat} (h : L ∈ ks) (o : Obj) : Chg w (w.putObj L o) ks :=
  ⟨rfl, rfl, rfl, by simp [World.putObj], fun k _ hn => World.putObj_heap_other fun e => hn (e ▸ h)⟩
theorem later_two (w : World) (o o' : Obj) : Later w ((w.alloc o).alloc o') := (later_alloc w o).alloc o'
theorem heap_later {w w' : World} {k : Nat} {o : Obj} (h : w.heap[k]? = some o) (hl : Later w w') : w'.heap[k]? = some o := by
  rw [hl.block k (Array.getElem?_eq_some_iff.1 h).1]; exact h
theorem heap_chg {w w' : World} {k : Nat} {o : Obj} {ks : List Nat} (h : w.heap[k]? = some o) (g : Chg w w' ks) (hk : k ∉ ks) : w'.heap[k]? = some o := by
  rw [g.block k (Array.getElem?_eq_some_iff.1 h).1 hk]; exact h
/-- A pair's cells. -/
def pairC (p : Int × Int) : List Value := [.int .i64 p.1, .int .i64 p.2]
/-- Pairs, read. -/
def PairS (w : World) (v : Value) (l : List (Int × Int)) : Prop := SlN w 2 v l.length (l.map pairC).flatten
def OwnP (w : World) (B : Nat) (e : TypeId) (v : Value) (l : List (Int × Int)) : Prop := w.ownsRow B e 2 v l.length (l.map pairC).flatten
theorem pairs_len (l : List (Int × Int)) : ∀ r ∈ l.map pairC, r.length = 2 := by
  intro r hr
  obtain ⟨p, _, rfl⟩ := List.mem_map.1 hr
  rfl
theorem PairS.later {w w' : World} {v : Value} {l : List (Int × Int)} (h : PairS w v l) (hl : Later w w') : PairS w' v l := SlN.later h hl
theorem OwnP.s {w : World} {B : Nat} {e : TypeId} {v : Value} {l : List (Int × Int)} (h : OwnP w B e v l) : PairS w v l := SlN.of_own h
theorem OwnP.later {w w' : World} {B : Nat} {e : TypeId} {v : Value} {l : List (Int × Int)} (h : OwnP w B e v l) (hl : Later w w') : OwnP w' B e v l := own_later h hl
theorem OwnP.base {w : World} {B B' : Nat} {e : TypeId} {v : Value} {l : List (Int × Int)} (h : OwnP w B e v l) (hb : B' ≤ B) : OwnP w B' e v l := own_base h hb
theorem OwnP.nil (w : World) (B : Nat) (e : TypeId) : OwnP w B e (.slice none 0 0) [] := own_nil w B e 2
theorem PairS.slice {w : World} {v : Value} {l : List (Int × Int)} (h : PairS w v l) : ∃ o c, v = .slice o l.length c ∧ l.length ≤ c ∧ c ≤ 9223372036854775807 := by
  obtain ⟨o, c, hv, h1, h2, _⟩ := SlN.open h
  exact ⟨o, c, hv, h1, by simpa [maxLen] using h2⟩
theorem PairS.at {w : World} {o : Option Addr} {n c : Nat} {l : List (Int × Int)} (h : PairS w (.slice o n c) l) {i : Nat} (hi : i < l.length) : ∃ a, o = some a ∧ cellsAt w (a.add (i * 2)) 2 = some (pairC l[i]) ∧
    w.cell? (a.add (i * 2)) = some (.int .i64 l[i].1) ∧ w.cell? ((a.add (i * 2)).add 1) = some (.int .i64 l[i].2) := by
  cases o with
  | none => have h1 := SlN.len h; have := h1.2.2.2.2 rfl; have := h1.1; omega
  | some a =>
    have hr : (l.map pairC)[i]? = some (pairC l[i]) := by simp [hi]
    refine ⟨a, rfl, SlN.row h (pairs_len l) hr, ?_, SlN.rowCell h (pairs_len l) hr rfl⟩
    have := SlN.rowCell h (pairs_len l) hr (j := 0) rfl
    simpa [addr_add_zero] using this
/-- One pair behind a slice of the call's own. -/
theorem vAppend_pair {P : Program} {w : World} {K : Value → World → Prop} {t e ty : TypeId} {z : Value} {b : Nat} (ht : P.underlying t = some (.slice e)) (hi : (P.info? e).map (fun i => (i.zero, i.size, i.bytes)) = some (some z, 2, b)) (hzs : z.cells.size = 2)
    {B : Nat} {v : Value} {l : List (Int × Int)} {x y : Int} (h : OwnP w B e v l) (h63 : l.length + 1 ≤ maxLen) (hb : (l.length + 1) * b ≤ 140737488355328) (hbase : B ≤ w.heap.size)
    (hK : ∀ v' w', OwnP w' B e v' (l ++ [(x, y)]) → (w.alloc (.cells #[.int .i64 x, .int .i64 y] e)).grownBy w' v.ownBlock → (∀ w0, Later w0 w → w0.heap.size ≤ B → Later w0 w') → K v' w') :
    vAppend P #[t, t] ty #[v, .slice (some ⟨w.heap.size, 0, none⟩) 1 1] K (w.alloc (.cells #[.int .i64 x, .int .i64 y] e)) := by
  refine vAppend_own ht hi hzs (by omega) (own_alloc h _) (SlN.lit w [.int .i64 x, .int .i64 y] e 2 1 rfl (by unfold maxLen; omega)) ?_ h63 hb (by simp; omega) ?_
  · intro u hu
    simp only [List.mem_cons, List.not_mem_nil, or_false] at hu
    rcases hu with rfl | rfl <;> rfl
  · intro v' w' ho hg _
    refine hK v' w' ?_ hg fun w0 hl hb => (hl.alloc _).appended (own_alloc h _) hb hg
    unfold OwnP
    simpa [pairC] using ho
/-- Two pairs, held against one another. -/
theorem run_pair {P : Program} {t : TypeId} {f0 f1 : Field} (ht : P.underlying t = some (.struct #[f0, f1])) (h0 : P.underlying f0.type = some (.int .i64)) (h1 : P.underlying f1.type = some (.int .i64)) (o0 : f0.offset = 0) (o1 : f1.offset = 1)
    (n0 : f0.name ≠ "_") (n1 : f1.name ≠ "_") (hp : P.stoodInHeld t = false) (hm : P.eqGuardType P.depth t = false) (x y : Operand) (a b c d : Int) (w : World) :
    (do eqGuard .neq t x y (.agg #[.int .i64 a, .int .i64 b]) (.agg #[.int .i64 c, .int .i64 d]); binOp .neq t (.agg #[.int .i64 a, .int .i64 b]) (.agg #[.int .i64 c, .int .i64 d])).run P w = .ok (.bool (!decide ((a, b) = (c, d)))) w := by
  have hf : P.fieldsOf t = #[f0, f1] := by unfold Program.fieldsOf; rw [ht]
  have hs : P.underlying t = some (.struct (P.fieldsOf t)) := by rw [hf]; exact ht
  have hd : (decide ((a, b) = (c, d))) = (a == c && b == d) := by
    rw [Bool.eq_iff_iff]; simp
  rw [hd]
  simp only [Sem.run_bind, run_eqGuard_agg w .neq t x y _ _ hm, Result.andThen_ok, run_neq_struct, run_equalIn_agg w 9999 t _ _ hs hp, hf]
  have i0 : ∀ w' : World, (isAgg f0.type).run P w' = .ok false w' := run_isAgg (by rw [h0]; rfl)
  have i1 : ∀ w' : World, (isAgg f1.type).run P w' = .ok false w' := run_isAgg (by rw [h1]; rfl)
  by_cases e1 : a = c <;> by_cases e2 : b = d <;> simp [Op.eqFields, n0, n1, part, i0, i1, o0, o1, run_equalIn_int _ _ _ _ _ _ _ h0, run_equalIn_int _ _ _ _ _ _ _ h1, e1, e2]
end Go.Vc
