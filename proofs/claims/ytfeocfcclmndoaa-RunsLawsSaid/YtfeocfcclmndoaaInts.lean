/- Whole numbers in slices. -/
import Derived.Test.YtfeocfcclmndoaaMem7
namespace Go.Vc
open Go.RowKit
def i64v (n : Int) : Value := .int .i64 n
/-- A slice of numbers that a call owns. -/
def OwnI (w : World) (B : Nat) (e : TypeId) (v : Value) (l : List Int) : Prop := w.ownsRow B e 1 v l.length (l.map i64v)
theorem OwnI.sl {w : World} {B : Nat} {e : TypeId} {v : Value} {l : List Int} (h : OwnI w B e v l) : Sl w v (l.map i64v) := Sl.of_own h
theorem OwnI.later {w w' : World} {B : Nat} {e : TypeId} {v : Value} {l : List Int} (h : OwnI w B e v l) (hl : Later w w') : OwnI w' B e v l := own_later h hl
theorem OwnI.base {w : World} {B B' : Nat} {e : TypeId} {v : Value} {l : List Int} (h : OwnI w B e v l) (hb : B' ≤ B) : OwnI w B' e v l := own_base h hb
theorem OwnI.nil (w : World) (B : Nat) (e : TypeId) : OwnI w B e (.slice none 0 0) [] := own_nil w B e 1
theorem OwnI.slice {w : World} {B : Nat} {e : TypeId} {v : Value} {l : List Int} (h : OwnI w B e v l) : ∃ o c, v = .slice o l.length c := by
  obtain ⟨o, c, hv, _⟩ := h.sl.openM
  exact ⟨o, c, hv⟩
theorem Sl.atI {w : World} {a : Addr} {l : List Int} {n c : Nat} (h : Sl w (.slice (Option.some a) n c) (l.map i64v)) {i : Nat} (hi : i < l.length) : w.cell? (a.add i) = Option.some (.int .i64 l[i]) := h.at (by simp [i64v, hi])
/-- One number behind a slice of the call's own (the literal's row lies anywhere). -/
theorem vAppend_i {P : Program} {w : World} {K : Value → World → Prop} {t e ty : TypeId} {z : Value} {b : Nat} (ht : P.underlying t = some (.slice e)) (hi : (P.info? e).map (fun i => (i.zero, i.size, i.bytes)) = some (some z, 1, b)) (hzs : z.cells.size = 1)
    {B : Nat} {v x : Value} {l : List Int} {n : Int} (hown : OwnI w B e v l) (hx : SlN w 1 x 1 [.int .i64 n]) (h63 : l.length + 1 ≤ 1000000000) (hb : b ≤ 1000) (hbase : B ≤ w.heap.size)
    (hK : ∀ v' w', OwnI w' B e v' (l ++ [n]) → w.grownBy w' v.ownBlock → (v'.ownBlock = v.ownBlock ∨ v'.ownBlock = some w.heap.size) → (∀ w0, Later w0 w → w0.heap.size ≤ B → Later w0 w') → K v' w') : vAppend P #[t, t] ty #[v, x] K w := by
  refine vAppend_at ht hi hzs (by omega) hown hx (by simp; rfl) (by unfold maxLen; omega) ?_ hbase ?_
  · have : (l.length + 1) * b ≤ 1000000000 * 1000 := Nat.mul_le_mul h63 hb
    omega
  · intro v' w' ho hg hs
    refine hK v' w' ?_ hg hs fun w0 hl hb => hl.appended hown hb hg
    unfold OwnI
    rw [List.length_append, List.map_append]; exact ho
/-- Numbers behind a slice of the call's own. -/
theorem vAppend_is {P : Program} {w : World} {K : Value → World → Prop} {t e ty : TypeId} {z : Value} {b : Nat} (ht : P.underlying t = some (.slice e)) (hi : (P.info? e).map (fun i => (i.zero, i.size, i.bytes)) = some (some z, 1, b)) (hzs : z.cells.size = 1)
    {B : Nat} {v x : Value} {l r : List Int} (hown : OwnI w B e v l) (hx : Sl w x (r.map i64v)) (h63 : l.length + r.length ≤ 1000000000) (hb : b ≤ 1000) (hbase : B ≤ w.heap.size)
    (hK : ∀ v' w', OwnI w' B e v' (l ++ r) → w.grownBy w' v.ownBlock → (v'.ownBlock = v.ownBlock ∨ v'.ownBlock = some w.heap.size) → (∀ w0, Later w0 w → w0.heap.size ≤ B → Later w0 w') → K v' w') : vAppend P #[t, t] ty #[v, x] K w := by
  have hx' : SlN w 1 x r.length (r.map i64v) := by
    unfold Sl at hx
    rwa [List.length_map] at hx
  refine vAppend_at ht hi hzs (by omega) hown hx' (by intro u hu; obtain ⟨y, _, rfl⟩ := List.mem_map.1 hu; rfl) (by unfold maxLen; omega) ?_ hbase ?_
  · have : (l.length + r.length) * b ≤ 1000000000 * 1000 := Nat.mul_le_mul h63 hb
    omega
  · intro v' w' ho hg hs
    refine hK v' w' ?_ hg hs fun w0 hl hb => hl.appended hown hb hg
    unfold OwnI
    rw [List.length_append, List.map_append]; exact ho
/-- The literal's row laid just now. -/
theorem lit_i (w : World) (n : Int) (e : TypeId) : SlN (w.alloc (.cells #[.int .i64 n] e)) 1 (.slice (some ⟨w.heap.size, 0, none⟩) 1 1) 1 [.int .i64 n] := Sl.one w _ _
theorem OwnI.alloc {w : World} {B : Nat} {e : TypeId} {v : Value} {l : List Int} (h : OwnI w B e v l) (o : Obj) : OwnI (w.alloc o) B e v l := own_alloc h o
/-- An empty row laid just now. -/
theorem OwnI.lit0 (w : World) (e : TypeId) {B : Nat} (hB : B ≤ w.heap.size) : OwnI (w.alloc (.cells #[] e)) B e (.slice (some ⟨w.heap.size, 0, none⟩) 0 0) [] := own_lit w [] e 1 0 rfl (by unfold maxLen; omega) hB
theorem sl_from {w : World} {a : Addr} {n c k : Nat} {m : List Int} (h : Sl w (.slice (Option.some a) n c) (m.map i64v)) (hk : k ≤ m.length) : Sl w (.slice (slAddr (Option.some a) k c 1) ((n : Int) - k).toNat ((c : Int) - k).toNat) ((m.drop k).map i64v) := by
  obtain ⟨e, h1, _⟩ := h.len
  rw [List.length_map] at e
  have := h.part (l := (k : Int)) (k := (n : Int)) (m := (c : Int)) (by omega) (by omega) (by omega) (by omega) (by omega)
  rw [Int.toNat_natCast, Int.toNat_natCast, List.take_of_length_le (by simp; omega), ← List.map_drop] at this
  exact this
theorem sl_upto {w : World} {o : Option Addr} {n c k : Nat} {m : List Int} (h : Sl w (.slice o n c) (m.map i64v)) (hk : k ≤ m.length) : Sl w (.slice o k c) ((m.take k).map i64v) := by
  obtain ⟨e, h1, _⟩ := h.len
  rw [List.length_map] at e
  have := h.pre (k := k) (by omega)
  rwa [← List.map_take] at this
end Go.Vc
