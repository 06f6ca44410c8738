/- Slices that are made, slices that are written; numbers of 64 bits. -/
import Derived.Test.YtkchefbnamiikaaMem2
import Derived.Laws.MakeOwn
namespace Go.Vc
open Go.RowKit
section
variable {P : Program} {w : World} {K : Value → World → Prop} {t e : TypeId} {z : Value} {b : Nat}
theorem madeCells_one (z : Value) (n : Nat) : madeCells #[z] n = (List.replicate n z).toArray := by
  apply Array.ext
  · simp [madeCells]
  · intro i h1 h2
    have e0 : i % 1 = 0 := Nat.mod_one i
    simp [madeCells, e0]
/-- make([]T, n) of one cell each: the block behind the heap. -/
theorem vMakeSlice_ok (ht : P.underlying t = some (.slice e)) (hi : (P.info? e).map (fun i => (i.zero, i.size, i.bytes)) = some (some z, 1, b)) (hz : z.cells = #[z]) {n : Nat} (hb : b * n ≤ 281474976710656) (h63 : n ≤ maxLen)
    (hK : K (.slice (some ⟨w.heap.size, 0, none⟩) n n) (w.alloc (.cells (List.replicate n z).toArray e))) : vMakeSlice P t (.int .i64 n) (.int .i64 n) K w := by
  obtain ⟨i, hi1, hz1, hsi, hbi⟩ := info_parts hi
  unfold maxLen at h63
  have hb' : (i.bytes : Int) * (n : Int) ≤ 281474976710656 := by
    have h : ((i.bytes * n : Nat) : Int) ≤ 281474976710656 := by rw [hbi]; omega
    rwa [Int.natCast_mul] at h
  have hr := run_make (P := P) w t e i z ht hi1 hz1 .i64 .i64 (n : Int) (n : Int) (by omega) (by omega) hb' (by omega)
  rw [hsi, hz, Nat.mul_one, madeCells_one] at hr
  simp only [Int.toNat_natCast] at hr
  unfold vMakeSlice
  rw [run_val_pure hr]; exact hK
end
/-- A slice that begins a block of the same number of cells. -/
theorem Sl.of_blk {w : World} {k n : Nat} {xs : List Value} {e : TypeId} (h : Blk w k xs.toArray e) (hn : n = xs.length) (hm : n ≤ maxLen) : Sl w (.slice (some ⟨k, 0, none⟩) n n) xs := by
  subst hn
  refine SlN.mk (by simp) (Nat.le_refl _) hm (fun h => by cases h) ?_
  intro a ha i x hx
  simp only [Option.some.injEq] at ha
  subst ha
  rw [addr_add_eq, Nat.zero_add, h.cell]
  simpa using hx
theorem Blk.setL {w : World} {k i : Nat} {xs : List Value} {e : TypeId} (h : Blk w k xs.toArray e) (v : Value) : Blk (w.setCell ⟨k, i, none⟩ v) k (xs.set i v).toArray e := by
  have := h.set i v
  simpa using this
/-- A block of the call's own. -/
theorem own_blk {w : World} {k n base : Nat} {xs : List Value} {e : TypeId} (h : Blk w k xs.toArray e) (hn : n = xs.length) (hm : n ≤ maxLen) (hb : base ≤ k) : w.ownsRow base e 1 (.slice (some ⟨k, 0, none⟩) n n) n xs := by
  subst hn
  refine ⟨by simp, .inr ⟨k, _, xs.toArray, rfl, hb, h, Nat.le_refl _, hm, by simp, by simp⟩⟩
/-- The block of what a call owns. -/
theorem own_blk' {w : World} {base n : Nat} {e : TypeId} {a : Addr} {c m : Nat} {xs : List Value} (h : w.ownsRow base e 1 (.slice (some a) m c) n xs) : ∃ k cs, a = ⟨k, 0, none⟩ ∧ base ≤ k ∧ Blk w k cs e ∧ m = n ∧ n ≤ c ∧ c ≤ maxLen ∧ cs.size = c ∧ cs.toList.take n = xs := by
  obtain ⟨h0, h⟩ := h
  rcases h with ⟨h, _⟩ | ⟨g, cap, cur, hv, hb, hh, h1, h2, h3, h4⟩
  · cases h
  · simp only [Value.slice.injEq, Option.some.injEq] at hv
    obtain ⟨rfl, rfl, rfl⟩ := hv
    exact ⟨g, cur, rfl, hb, hh, rfl, h1, h2, by simpa using h3, by simpa using h4⟩
/-- One cell of what a call owns, written. -/
theorem own_set {w : World} {base n : Nat} {e : TypeId} {k c m i : Nat} {xs : List Value} (h : w.ownsRow base e 1 (.slice (some ⟨k, 0, none⟩) m c) n xs) (hi : i < n) (v : Value) : (w.setCell ⟨k, i, none⟩ v).ownsRow base e 1 (.slice (some ⟨k, 0, none⟩) m c) n (xs.set i v) ∧ (∃ y, w.cell? ⟨k, i, none⟩ = some y) ∧ w.frozen? ⟨k, i, none⟩ = false := by
  obtain ⟨h0, h⟩ := h
  rcases h with ⟨h, _⟩ | ⟨g, cap, cur, hv, hb, hh, h1, h2, h3, h4⟩
  · cases h
  · simp only [Value.slice.injEq, Option.some.injEq] at hv
    obtain ⟨e1, rfl, rfl⟩ := hv
    have hg : g = k := by have := congrArg Addr.block e1; simpa using this.symm
    subst hg
    have hB : Blk w g cur e := hh
    have hsz : cur.size = c := by simpa using h3
    refine ⟨⟨by simpa using h0, .inr ⟨g, c, cur.setIfInBounds i v, rfl, hb, hB.set i v, h1, h2, by simpa using h3, ?_⟩⟩, ?_, hB.frozen i⟩
    · rw [← h4]; simp [List.take_set]
    · rw [hB.cell]; exact ⟨cur[i], Array.getElem?_eq_getElem (by omega)⟩
/-! ### a block that is new, of one cell: looked at, written -/
section
variable {w : World} {e : TypeId}
@[push_cast] theorem cell_new1 (z : Value) : (w.alloc (.cells #[z] e)).cell? ⟨w.heap.size, 0, none⟩ = some z := (Blk.new w #[z] e).cell 0
@[push_cast] theorem frozen_new (cs : Array Value) (i : Nat) : (w.alloc (.cells cs e)).frozen? ⟨w.heap.size, i, none⟩ = false := (Blk.new w cs e).frozen i
@[push_cast] theorem set_new1 (z v : Value) : (w.alloc (.cells #[z] e)).setCell ⟨w.heap.size, 0, none⟩ v = w.alloc (.cells #[v] e) := by
  show World.setCell { w with heap := w.heap.push _ } _ _ = { w with heap := w.heap.push _ }
  simp only [World.setCell]
  congr 1
  apply Array.ext_getElem?
  intro i
  simp only [Array.getElem?_modify, Array.getElem?_push]
  by_cases h : i = w.heap.size
  · subst h; simp
  · rw [if_neg h, if_neg (fun e => h e.symm), if_neg h]
@[push_cast] theorem ex_some (z : Value) : (∃ y, some z = some y) = True := by simp
@[push_cast] theorem tr_and (p : Prop) : (True ∧ p) = p := by simp
end
/-- A number of 64 bits. -/
def u64v (c : UInt64) : Value := .int .u64 c.toNat
theorem u64v_one (c : UInt64) : (u64v c).oneCell' = true := rfl
theorem u64v_nat {n : Nat} (h : n < 18446744073709551616) : u64v (UInt64.ofNat n) = .int .u64 n := by
  unfold u64v
  have : (UInt64.ofNat n).toNat = n := by rw [UInt64.toNat_ofNat']; exact Nat.mod_eq_of_lt h
  rw [this]
theorem u8v_nat {n : Nat} (h : n < 256) : u8v (UInt8.ofNat n) = .int .u8 n := by
  unfold u8v
  have : (UInt8.ofNat n).toNat = n := by rw [UInt8.toNat_ofNat']; exact Nat.mod_eq_of_lt h
  rw [this]
/-- A slice that a call owns, as numbers. -/
def OwnW (w : World) (B : Nat) (e : TypeId) (v : Value) (l : List UInt64) : Prop := w.ownsRow B e 1 v l.length (l.map u64v)
theorem OwnW.sl {w : World} {B : Nat} {e : TypeId} {v : Value} {l : List UInt64} (h : OwnW w B e v l) : Sl w v (l.map u64v) := Sl.of_own h
theorem OwnW.later {w w' : World} {B : Nat} {e : TypeId} {v : Value} {l : List UInt64} (h : OwnW w B e v l) (hl : Later w w') : OwnW w' B e v l := own_later h hl
theorem OwnW.base {w : World} {B B' : Nat} {e : TypeId} {v : Value} {l : List UInt64} (h : OwnW w B e v l) (hb : B' ≤ B) : OwnW w B' e v l := own_base h hb
theorem OwnW.slice {w : World} {B : Nat} {e : TypeId} {v : Value} {l : List UInt64} (h : OwnW w B e v l) : ∃ o c, v = .slice o l.length c := by
  obtain ⟨o, c, hv, _⟩ := h.sl.open
  exact ⟨o, c, by simpa using hv⟩
theorem Sl.openM {α : Type} {f : α → Value} {w : World} {v : Value} {l : List α} (h : Sl w v (l.map f)) : ∃ o c, v = .slice o l.length c ∧ l.length ≤ c ∧ c ≤ 9223372036854775807 ∧ Sl w (.slice o l.length c) (l.map f) ∧ (o = none → l = [] ∧ c = 0) := by
  have h' := h
  obtain ⟨o, c, rfl, h1, h2, h3, _⟩ := h.open
  simp only [List.length_map] at h1 h'
  refine ⟨o, c, by simp, h1, by simpa [maxLen] using h2, h', fun ho => ⟨by simpa using (h3 ho).1, (h3 ho).2⟩⟩
theorem take_snoc {α : Type} (l : List α) (i : Nat) (h : i < l.length) : l.take (i + 1) = l.take i ++ [l[i]] := by
  rw [List.take_add_one, List.getElem?_eq_getElem h]; rfl
/-- A number of 64 bits, looked at. -/
theorem Sl.at64 {w : World} {a : Addr} {l : List UInt64} {n c : Nat} (h : Sl w (.slice (some a) n c) (l.map u64v)) {i : Nat} (hi : i < l.length) : w.cell? (a.add i) = some (.int .u64 l[i].toNat) := h.at (by simp [u64v, hi])
theorem Sl.at8 {w : World} {a : Addr} {l : List UInt8} {n c : Nat} (h : Sl w (.slice (some a) n c) (l.map u8v)) {i : Nat} (hi : i < l.length) : w.cell? (a.add i) = some (.int .u8 l[i].toNat) := h.at (by simp [u8v, hi])
theorem Sl.some {α : Type} {f : α → Value} {w : World} {o : Option Addr} {l : List α} {n c : Nat} (h : Sl w (.slice o n c) (l.map f)) {i : Nat} (hi : i < l.length) : ∃ a, o = Option.some a := by
  cases o with
  | none => have := (h.len.2.2.2 rfl).1; simp at this; subst this; simp at hi
  | some a => exact ⟨a, rfl⟩
end Go.Vc
