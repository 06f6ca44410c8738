/- Slices that are made, slices that are written; numbers of 64 bits. -/
import Derived.Test.YtfeocfcclmndoaaMem2
import Derived.Laws.MakeOwn
namespace Go.Vc
open Go.RowKit
section
variable {P : Program} {w : World} {K : Value → World → Prop} {t e : TypeId} {z : Value} {b : Nat}
theorem madeCells_one (z : Value) (n : Nat) : madeCells #[z] n = (List.replicate n z).toArray := by
  apply Array.ext
  · simp [madeCells]
  · intro i h1 h2
    have e0 : i % 1 = 0 := Nat.mod_one i
    simp [madeCells, e0]
/-- make([]T, n) of one cell each: the block behind the heap. -/
theorem vMakeSlice_ok (ht : P.underlying t = some (.slice e)) (hi : (P.info? e).map (fun i => (i.zero, i.size, i.bytes)) = some (some z, 1, b)) (hz : z.cells = #[z]) {n : Nat} (hb : b * n ≤ 281474976710656) (h63 : n ≤ maxLen)
    (hK : K (.slice (some ⟨w.heap.size, 0, none⟩) n n) (w.alloc (.cells (List.replicate n z).toArray e))) : vMakeSlice P t (.int .i64 n) (.int .i64 n) K w := by
  obtain ⟨i, hi1, hz1, hsi, hbi⟩ := info_parts hi
  unfold maxLen at h63
  have hb' : (i.bytes : Int) * (n : Int) ≤ 281474976710656 := by
    have h : ((i.bytes * n : Nat) : Int) ≤ 281474976710656 := by rw [hbi]; omega
    rwa [Int.natCast_mul] at h
  have hr := run_make (P := P) w t e i z ht hi1 hz1 .i64 .i64 (n : Int) (n : Int) (by omega) (by omega) hb' (by omega)
  rw [hsi, hz, Nat.mul_one, madeCells_one] at hr
  simp only [Int.toNat_natCast] at hr
  unfold vMakeSlice
  rw [run_val_pure hr]; exact hK
end
/-- A slice that begins a block of the same number of cells. -/
theorem Sl.of_blk {w : World} {k n : Nat} {xs : List Value} {e : TypeId} (h : Blk w k xs.toArray e) (hn : n = xs.length) (hm : n ≤ maxLen) : Sl w (.slice (some ⟨k, 0, none⟩) n n) xs := by
  subst hn
  refine SlN.mk (by simp) (Nat.le_refl _) hm (fun h => by cases h) ?_
  intro a ha i x hx
  simp only [Option.some.injEq] at ha
  subst ha
  rw [addr_add_eq, Nat.zero_add, h.cell]
  simpa using hx
theorem Blk.setL {w : World} {k i : Nat} {xs : List Value} {e : TypeId} (h : Blk w k xs.toArray e) (v : Value) : Blk (w.setCell ⟨k, i, none⟩ v) k (xs.set i v).toArray e := by
  have := h.set i v
  simpa using this
/-- A block of the call's own. -/
theorem own_blk {w : World} {k n base : Nat} {xs : List Value} {e : TypeId} (h : Blk w k xs.toArray e) (hn : n = xs.length) (hm : n ≤ maxLen) (hb : base ≤ k) : w.ownsRow base e 1 (.slice (some ⟨k, 0, none⟩) n n) n xs := by
  subst hn
  refine ⟨by simp, .inr ⟨k, _, xs.toArray, rfl, hb, h, Nat.le_refl _, hm, by simp, by simp⟩⟩
/-- The block of what a call owns. -/
theorem own_blk' {w : World} {base n : Nat} {e : TypeId} {a : Addr} {c m : Nat} {xs : List Value} (h : w.ownsRow base e 1 (.slice (some a) m c) n xs) : ∃ k cs, a = ⟨k, 0, none⟩ ∧ base ≤ k ∧ Blk w k cs e ∧ m = n ∧ n ≤ c ∧ c ≤ maxLen ∧ cs.size = c ∧ cs.toList.take n = xs := by
  obtain ⟨h0, h⟩ := h
  rcases h with ⟨h, _⟩ | ⟨g, cap, cur, hv, hb, hh, h1, h2, h3, h4⟩
  · cases h
  · simp only [Value.slice.injEq, Option.some.injEq] at hv
    obtain ⟨rfl, rfl, rfl⟩ := hv
    exact ⟨g, cur, rfl, hb, hh, rfl, h1, h2, by simpa using h3, by simpa using h4⟩
/-- One cell of what a call owns, written. -/
theorem own_set {w : World} {base n : Nat} {e : TypeId} {k c m i : Nat} {xs : List Value} (h : w.ownsRow base e 1 (.slice (some ⟨k, 0, none⟩) m c) n xs) (hi : i < n) (v : Value) : (w.setCell ⟨k, i, none⟩ v).ownsRow base e 1 (.slice (some ⟨k, 0, none⟩) m c) n (xs.set i v) ∧ (∃ y, w.cell? ⟨k, i, none⟩ = some y) ∧ w.frozen? ⟨k, i, none⟩ = false := by
  obtain ⟨h0, h⟩ := h
  rcases h with ⟨h, _⟩ | ⟨g, cap, cur, hv, hb, hh, h1, h2, h3, h4⟩
  · cases h
  · simp only [Value.slice.injEq, Option.some.injEq] at hv
    obtain ⟨e1, rfl, rfl⟩ := hv
    have hg : g = k := by have := congrArg Addr.block e1; simpa using this.symm
    subst hg
    have hB : Blk w g cur e := hh
    have hsz : cur.size = c := by simpa using h3
    refine ⟨⟨by simpa using h0, .inr ⟨g, c, cur.setIfInBounds i v, rfl, hb, hB.set i v, h1, h2, by simpa using h3, ?_⟩⟩, ?_, hB.frozen i⟩
    · rw [← h4]; simp [List.take_set]
    · rw [hB.cell]; exact ⟨cur[i], Array.getElem?_eq_getElem (by omega)⟩
/-! ### a block that is new, of one cell: looked at, written -/
section
variable {w : World} {e : TypeId}
@[push_cast] theorem cell_new1 (z : Value) : (w.alloc (.cells #[z] e)).cell? ⟨w.heap.size, 0, none⟩ = some z := (Blk.new w #[z] e).cell 0
@[push_cast] theorem frozen_new (cs : Array Value) (i : Nat) : (w.alloc (.cells cs e)).frozen? ⟨w.heap.size, i, none⟩ = false := (Blk.new w cs e).frozen i
@[push_cast] theorem set_new1 (z v : Value) : (w.alloc (.cells #[z] e)).setCell ⟨w.heap.size, 0, none⟩ v = w.alloc (.cells #[v] e) := by
  show World.setCell { w with heap := w.heap.push _ } _ _ = { w with heap := w.heap.push _ }
  simp only [World.setCell]
  congr 1
  apply Array.ext_getElem?
  intro i
  simp only [Array.getElem?_modify, Array.getElem?_push]
  by_cases h : i = w.heap.size
  · subst h; simp
  · rw [if_neg h, if_neg (fun e => h e.symm), if_neg h]
@[push_cast] theorem ex_some (z : Value) : (∃ y, some z = some y) = True := by simp
@[push_cast] theorem tr_and (p : Prop) : (True ∧ p) = p := by simp
end
/-- A number of 64 bits. -/
def u64v (c : UInt64) : Value := .int .u64 c.toNat
theorem u64v_one (c : UInt64) : (u64v c).oneCell' = true := rfl
theorem u64v_nat {n : Nat} (h : n < 18446744073709551616) : u64v (UInt64.ofNat n) = .int .u64 n := by
  unfold u64v
  have : (UInt64.ofNat n).toNat = n := by rw [UInt64.toNat_ofNat']; exact Nat.mod_eq_of_lt h
  rw [this]
theorem u8v_nat {n : Nat} (h : n < 256) : u8v (UInt8.ofNat n) = .int .u8 n := by
  unfold u8v
  have : (UInt8.ofNat n).toNat = n := by rw [UInt8.toNat_ofNat']; exact Nat.mod_eq_of_lt h
  rw [this]
/-- A slice that a call owns, as numbers. -/
def OwnW (w : World) (B : Nat) (e : TypeId) (v : Value) (l : List UInt64) : Prop := w.ownsRow B e 1 v l.length (l.map u64v)
theorem OwnW.sl {w : World} {B : Nat} {e : TypeId} {v : Value} {l : List UInt64} (h : OwnW w B e v l) : Sl w v (l.map u64v) := Sl.of_own h
theorem OwnW.later {w w' : World} {B : Nat} {e : TypeId} {v : Value} {l : List UInt64} (h : OwnW w B e v l) (hl : Later w w') : OwnW w' B e v l := own_later h hl
theorem OwnW.base {w : World} {B B' : Nat} {e : TypeId} {v : Value} {l : List UInt64} (h : OwnW w B e v l) (hb : B' ≤ B) : OwnW w B' e v l := own_base h hb
theorem OwnW.slice {w : World} {B : Nat} {e : TypeId} {v : Value} {l : List UInt64} (h : OwnW w B e v l) : ∃ o c, v = .slice o l.length c := by
  obtain ⟨o, c, hv, _⟩ := h.sl.open
  exact ⟨o, c, by simpa using hv⟩
theorem Sl.openM {α : Type} {f : α → Value} {w : World} {v : Value} {l : List α} (h : Sl w v (l.map f)) : ∃ o c, v = .slice o l.length c ∧ l.length ≤ c ∧ c ≤ 9223372036854775807 ∧ Sl w (.slice o l.length c) (l.map f) ∧ (o = none → l = [] ∧ c = 0) := by
  have h' := h
  obtain ⟨o, c, rfl, h1, h2, h3, _⟩ := h.open
  simp only [List.length_map] at h1 h'
  refine ⟨o, c, by simp, h1, by simpa [maxLen] using h2, h', fun ho => ⟨by simpa using (h3 ho).1, (h3 ho).2⟩⟩
theorem take_snoc {α : Type} (l : List α) (i : Nat) (h : i < l.length) : l.take (i + 1) = l.take i ++ [l[i]] := by
  rw [List.take_add_one, List.getElem?_eq_getElem h]; rfl
/-- A number of 64 bits, looked at. -/
theorem Sl.at64 {w : World} {a : Addr} {l : List UInt64} {n c : Nat} (h : Sl w (.slice (some a) n c) (l.map u64v)) {i : Nat} (hi : i < l.length) : w.cell? (a.add i) = some (.int .u64 l[i].toNat) := h.at (by simp [u64v, hi])
theorem Sl.at8 {w : World} {a : Addr} {l : List UInt8} {n c : Nat} (h : Sl w (.slice (some a) n c) (l.map u8v)) {i : Nat} (hi : i < l.length) : w.cell? (a.add i) = some (.int .u8 l[i].toNat) := h.at (by simp [u8v, hi])
theorem Sl.some {α : Type} {f : α → Value} {w : World} {o : Option Addr} {l : List α} {n c : Nat} (h : Sl w (.slice o n c) (l.map f)) {i : Nat} (hi : i < l.length) : ∃ a, o = Option.some a := by
  cases o with
  | none => have := (h.len.2.2.2 rfl).1; simp at this; subst this; simp at hi
  | some a => exact ⟨a, rfl⟩
theorem list_splice {l : List Value} {i : Nat} {x : Value} {xs : List Value} (h : i < l.length) : (l.set i x).take (i + 1) ++ xs ++ (l.set i x).drop (i + 1 + xs.length) = l.take i ++ x :: xs ++ l.drop (i + (xs.length + 1)) := by
  have e1 : (l.set i x).take (i + 1) = l.take i ++ [x] := by
    rw [List.take_add_one, List.getElem?_set_self h, List.take_set_of_le (Nat.le_refl _)]; rfl
  have e2 : (l.set i x).drop (i + 1 + xs.length) = l.drop (i + (xs.length + 1)) := by
    rw [List.drop_set_of_lt (by omega)]; congr 1; omega
  rw [e1, e2]; simp
/-- Cells that are stored side by side in a block. -/
theorem storeAll_blk {k : Nat} {e : TypeId} : ∀ (xs : List Value) (i : Nat) (w : World) (l : List Value), Blk w k l.toArray e → i + xs.length ≤ l.length →
    canAll w ⟨k, i, none⟩ xs ∧ Blk (storeAll w ⟨k, i, none⟩ xs) k (l.take i ++ xs ++ l.drop (i + xs.length)).toArray e ∧ Chg w (storeAll w ⟨k, i, none⟩ xs) [k]
  | [], i, w, l, h, hl => by
    refine ⟨trivial, ?_, Chg.refl _ _⟩
    simpa [storeAll] using h
  | x :: xs, i, w, l, h, hl => by
    simp only [List.length_cons] at hl
    have h1 := h.setL (i := i) x
    have g1 := chg_setCell w (i := i) (ks := [k]) (k := k) (by simp) x
    obtain ⟨c2, b2, g2⟩ := storeAll_blk xs (i + 1) (w.setCell ⟨k, i, none⟩ x) (l.set i x) h1 (by simp; omega)
    have ea : (⟨k, i, none⟩ : Addr).add 1 = ⟨k, i + 1, none⟩ := addr_add_eq k i 1
    have hcan : ∀ (ys : List Value) (j : Nat) (w : World) (l : List Value), Blk w k l.toArray e → j + ys.length ≤ l.length → canAll w ⟨k, j, none⟩ ys := by
      intro ys
      induction ys with
      | nil => intro j w l _ _; trivial
      | cons y ys ih =>
        intro j w l h hl
        simp only [List.length_cons] at hl
        refine ⟨?_, h.frozen j, ?_⟩
        · rw [h.cell]; exact ⟨l[j]'(by omega), by simp⟩
        · rw [addr_add_eq]; exact ih (j + 1) w l h (by omega)
    refine ⟨hcan (x :: xs) i w l h (by simp; omega), ?_, ?_⟩
    · show Blk (storeAll (w.setCell ⟨k, i, none⟩ x) ((⟨k, i, none⟩ : Addr).add 1) xs) k _ e
      rw [ea]
      have := b2
      rw [list_splice (by omega)] at this
      exact this
    · show Chg w (storeAll (w.setCell ⟨k, i, none⟩ x) ((⟨k, i, none⟩ : Addr).add 1) xs) [k]
      rw [ea]; exact g1.trans g2
/-- An aggregate that is stored in a block of its size. -/
theorem vStore_blk {P : Program} {w : World} {K : Value → World → Prop} {t e : TypeId} {k s : Nat} {l xs : List Value} (h : Blk w k l.toArray e) (hl : l.length = s) (hx : xs.length = s) (h1 : ∀ u ∈ xs, u.oneCell' = true)
    (hK : ∀ w', Blk w' k xs.toArray e → Chg w w' [k] → K undef w') : vStoreD P t (some s) (.pointer (some ⟨k, 0, none⟩)) (.agg xs.toArray) K w := by
  obtain ⟨c, b, g⟩ := storeAll_blk xs 0 w l h (by omega)
  refine ⟨by simp [Value.cells, hx], by simpa [Value.cells] using h1, by simpa [Value.cells] using c, hK _ ?_ (by simpa [Value.cells] using g)⟩
  have e : (l.take 0 ++ xs ++ l.drop (0 + xs.length)) = xs := by simp [hx, hl]
  rw [e] at b
  simpa [Value.cells] using b
theorem Blk.cellsAt {w : World} {k : Nat} {l : List Value} {e : TypeId} (h : Blk w k l.toArray e) : cellsAt w ⟨k, 0, none⟩ l.length = some l := by
  refine cellsAt_of _ _ l rfl fun i x hx => ?_
  rw [addr_add_eq, Nat.zero_add, h.cell]; simpa using hx
/-- A result of several cells. -/
theorem resK_agg {P : Program} {R : Value → World → Prop} {σ : Env} {w : World} {a : Nat} {t e : TypeId} {n s : Nat} {ad : Addr} {l : List Value} (ha : σ a = .pointer (some ad)) (ht : P.underlying t = some (.array n e)) (hs : szOf P t = some s) (hl : cellsAt w ad s = some l)
    (hR : R (.agg l.toArray) w) : resK P [.cell a t] [] σ R w := by
  unfold resK
  rw [ha]
  have hA : aggD P t (P.underlying t) = some s := by rw [ht]; exact hs
  obtain ⟨h1, h2⟩ := run_isAgg_yes hA w
  exact ⟨.agg l.toArray, by simp [loadVar, h1, run_sizeOf h2, run_loadCells' hl], hR⟩
/-- A literal's row in a region that draws its order: a new block, whichever. -/
def RowV (w0 : World) (e : TypeId) (cs : Array Value) (n : Nat) (x : Value) (w : World) : Prop := ∃ b, x = .slice (some ⟨b, 0, none⟩) n n ∧ w0.heap.size ≤ b ∧ Blk w b cs e
theorem stb_row (w0 : World) (e : TypeId) (cs : Array Value) (n : Nat) : Stb w0 (RowV w0 e cs n) := by
  rintro v w w' _ hl ⟨b, hv, hb, h⟩
  exact ⟨b, hv, hb, h.chg (Chg.of_later (ks := []) hl) (by simp)⟩
theorem RowV.new {w0 w : World} (h : Later w0 w) (e : TypeId) (cs : Array Value) (n : Nat) : Later w (w.alloc (.cells cs e)) ∧ RowV w0 e cs n (.slice (some ⟨w.heap.size, 0, none⟩) n n) (w.alloc (.cells cs e)) :=
  ⟨later_alloc _ _, w.heap.size, rfl, h.size, Blk.new _ _ _⟩
theorem RowV.sl {w0 w : World} {e : TypeId} {l : List Value} {n : Nat} {x : Value} (h : RowV w0 e l.toArray n x w) (hn : n = l.length) (hm : n ≤ maxLen) : Sl w x l := by
  obtain ⟨b, rfl, _, hb⟩ := h
  exact Sl.of_blk hb hn hm
end Go.Vc
