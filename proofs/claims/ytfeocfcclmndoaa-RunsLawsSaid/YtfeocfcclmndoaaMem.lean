/- What is known of memory: slices that read as lists, slices that a call owns, worlds that have only grown. -/
import Derived.Test.YtfeocfcclmndoaaVcLaws
import Derived.Lib.ConvBytes
import Derived.Lib.AppendStr
import Derived.Laws.BytesArg
namespace Go.Vc
open Go.RowKit

/-! ### worlds that have only grown -/
theorem Later.size {w w' : World} (h : Later w w') : w.heap.size ≤ w'.heap.size := Below.size h
theorem Later.alloc {w w' : World} (h : Later w w') (o : Obj) : Later w (w'.alloc o) := Below.alloc h (Below.size h) o
theorem later_alloc (w : World) (o : Obj) : Later w (w.alloc o) := (Later.refl w).alloc o
theorem Later.setCell {w w' : World} (h : Later w w') {a : Addr} (ha : w.heap.size ≤ a.block) (v : Value) : Later w (w'.setCell a v) := Below.setCell h ha v
theorem Later.grown {w w1 w' : World} {row : Option Nat} (h : Later w w1) (hg : w1.grownBy w' row) (hr : ∀ k, row = some k → w.heap.size ≤ k) : Later w w' := Below.grown h hg (Below.size h) hr
theorem Later.below {w w' : World} {B : Nat} (h : Later w w') (hB : B ≤ w.heap.size) : Below B w w' := Below.mono h hB
theorem Later.frozen {w w' : World} (h : Later w w') {a : Addr} (ha : a.block < w.heap.size) : w'.frozen? a = w.frozen? a := Below.frozen h ha
theorem Later.heap {w w' : World} (h : Later w w') {b : Nat} (hb : b < w.heap.size) : w'.heap[b]? = w.heap[b]? := h.block b hb

/-! ### addresses -/
theorem addr_add_add (a : Addr) (m n : Nat) : (a.add m).add n = a.add (m + n) := by
  unfold Addr.add
  by_cases h1 : m = 0
  · subst h1; simp
  · by_cases h2 : n = 0
    · subst h2; simp [h1]
    · have : ¬ m + n = 0 := by omega
      simp [h1, h2, this, Nat.add_assoc]
theorem addr_add_block (a : Addr) (n : Nat) : (a.add n).block = a.block := by unfold Addr.add; split <;> rfl
theorem addr_add_eq (b o n : Nat) : (⟨b, o, none⟩ : Addr).add n = ⟨b, o + n, none⟩ := by unfold Addr.add; split <;> simp_all
theorem lt_of_cell {w : World} {a : Addr} {v : Value} (h : w.cell? a = some v) : a.block < w.heap.size := World.block_lt_of_cell? w a h

/-! ### slices that read as lists of cells: n elements of s cells each -/
def SlN (w : World) (s : Nat) (v : Value) (n : Nat) (xs : List Value) : Prop :=
  xs.length = n * s ∧ ((v = .slice none 0 0 ∧ n = 0) ∨ ∃ a c, v = .slice (some a) n c ∧ n ≤ c ∧ c ≤ maxLen ∧ ∀ i x, xs[i]? = some x → w.cell? (a.add i) = some x)
/-- Elements of one cell. -/
def Sl (w : World) (v : Value) (xs : List Value) : Prop := SlN w 1 v xs.length xs
theorem SlN.nil (w : World) (s : Nat) : SlN w s (.slice none 0 0) 0 [] := ⟨by simp, .inl ⟨rfl, rfl⟩⟩
theorem Sl.nil (w : World) : Sl w (.slice none 0 0) [] := SlN.nil w 1
theorem SlN.later {w w' : World} {s n : Nat} {v : Value} {xs : List Value} (h : SlN w s v n xs) (hl : Later w w') : SlN w' s v n xs := by
  obtain ⟨h0, h⟩ := h
  refine ⟨h0, ?_⟩
  rcases h with h | ⟨a, c, hv, h1, h2, h3⟩
  · exact .inl h
  · exact .inr ⟨a, c, hv, h1, h2, fun i x hx => hl.cell (h3 i x hx)⟩
theorem Sl.later {w w' : World} {v : Value} {xs : List Value} (h : Sl w v xs) (hl : Later w w') : Sl w' v xs := SlN.later h hl
/-- Opened: nil, or an address. -/
theorem SlN.open {w : World} {s n : Nat} {v : Value} {xs : List Value} (h : SlN w s v n xs) : ∃ o c, v = .slice o n c ∧ n ≤ c ∧ c ≤ maxLen ∧ xs.length = n * s ∧ (o = none → n = 0 ∧ c = 0) ∧ (∀ a, o = some a → ∀ i x, xs[i]? = some x → w.cell? (a.add i) = some x) := by
  obtain ⟨h0, h⟩ := h
  rcases h with ⟨rfl, rfl⟩ | ⟨a, c, rfl, h1, h2, h3⟩
  · exact ⟨none, 0, rfl, Nat.le_refl _, Nat.zero_le _, h0, fun _ => ⟨rfl, rfl⟩, by intro a ha; cases ha⟩
  · exact ⟨some a, c, rfl, h1, h2, h0, (fun h => by cases h), by intro a' ha; cases ha; exact h3⟩
theorem Sl.open {w : World} {v : Value} {xs : List Value} (h : Sl w v xs) : ∃ o c, v = .slice o xs.length c ∧ xs.length ≤ c ∧ c ≤ maxLen ∧ (o = none → xs = [] ∧ c = 0) ∧ (∀ a, o = some a → ∀ i x, xs[i]? = some x → w.cell? (a.add i) = some x) := by
  obtain ⟨o, c, hv, h1, h2, h3, h4, h5⟩ := SlN.open h
  exact ⟨o, c, hv, h1, h2, fun ho => ⟨List.eq_nil_of_length_eq_zero (h4 ho).1, (h4 ho).2⟩, h5⟩
theorem SlN.mk {w : World} {s : Nat} {o : Option Addr} {xs : List Value} {n c : Nat} (hn : xs.length = n * s) (h1 : n ≤ c) (h2 : c ≤ maxLen) (h0 : o = none → n = 0 ∧ c = 0) (h3 : ∀ a, o = some a → ∀ i x, xs[i]? = some x → w.cell? (a.add i) = some x) : SlN w s (.slice o n c) n xs := by
  refine ⟨hn, ?_⟩
  cases o with
  | none => obtain ⟨rfl, rfl⟩ := h0 rfl; exact .inl ⟨rfl, rfl⟩
  | some a => exact .inr ⟨a, c, rfl, h1, h2, h3 a rfl⟩
theorem SlN.len {w : World} {s : Nat} {a : Option Addr} {xs : List Value} {n n' c : Nat} (h : SlN w s (.slice a n c) n' xs) : n = n' ∧ n ≤ c ∧ c ≤ maxLen ∧ xs.length = n * s ∧ (a = none → n = 0 ∧ c = 0) := by
  obtain ⟨o, c', hv, h1, h2, h0, h3, _⟩ := h.open
  simp only [Value.slice.injEq] at hv
  obtain ⟨rfl, rfl, rfl⟩ := hv
  exact ⟨rfl, h1, h2, h0, h3⟩
theorem SlN.at {w : World} {s : Nat} {a : Addr} {xs : List Value} {n n' c : Nat} (h : SlN w s (.slice (some a) n c) n' xs) {i : Nat} {x : Value} (hx : xs[i]? = some x) : w.cell? (a.add i) = some x := by
  obtain ⟨o, c', hv, h1, h2, h0, _, h3⟩ := h.open
  simp only [Value.slice.injEq] at hv
  obtain ⟨rfl, rfl, rfl⟩ := hv
  exact h3 a rfl i x hx
/-- A part of a slice: what 'x[l:h:m]' gives. -/
theorem SlN.sub {w : World} {s : Nat} {a : Option Addr} {xs : List Value} {n n' c : Nat} (h : SlN w s (.slice a n c) n' xs) {l k m : Nat} (hl : l ≤ k) (hk : k ≤ n) (hm : k ≤ m) (hc : m ≤ c) :
    SlN w s (.slice (if m = l then a else a.map (·.add (l * s))) (k - l) (m - l)) (k - l) ((xs.take (k * s)).drop (l * s)) := by
  obtain ⟨rfl, h1, h2, h3, h0⟩ := h.len
  have hks : k * s ≤ n * s := Nat.mul_le_mul_right _ hk
  have hls : l * s ≤ k * s := Nat.mul_le_mul_right _ hl
  refine SlN.mk (by simp [Nat.sub_mul]; omega) (by omega) (by omega) ?_ ?_
  · intro ho
    have ha : a = none := by
      split at ho
      · exact ho
      · cases a with | none => rfl | some _ => cases ho
    obtain ⟨rfl, rfl⟩ := h0 ha
    omega
  · intro b hb i x hx
    rw [List.getElem?_drop, List.getElem?_take] at hx
    split at hx
    · rename_i hlt
      split at hb
      · rename_i e
        have : k = l := by omega
        subst this; omega
      · cases a with
        | none => cases hb
        | some a =>
          simp only [Option.map_some, Option.some.injEq] at hb
          subst hb
          rw [addr_add_add]
          exact h.at hx
    · cases hx
theorem SlN.part {w : World} {s : Nat} {a : Option Addr} {xs : List Value} {n n' c : Nat} (h : SlN w s (.slice a n c) n' xs) {l k m : Int} (h0 : 0 ≤ l) (hl : l ≤ k) (hk : k ≤ n) (hm : k ≤ m) (hc : m ≤ c) :
    SlN w s (.slice (slAddr a l m s) (k - l).toNat (m - l).toNat) (k - l).toNat ((xs.take (k.toNat * s)).drop (l.toNat * s)) := by
  have := h.sub (l := l.toNat) (k := k.toNat) (m := m.toNat) (by omega) (by omega) (by omega) (by omega)
  have e1 : (m.toNat = l.toNat) = (m = l) := by rw [eq_iff_iff]; omega
  have e2 : (k - l).toNat = k.toNat - l.toNat := by omega
  have e3 : (m - l).toNat = m.toNat - l.toNat := by omega
  unfold slAddr
  rw [e2, e3]
  simpa only [e1] using this
theorem Sl.len {w : World} {a : Option Addr} {xs : List Value} {n c : Nat} (h : Sl w (.slice a n c) xs) : n = xs.length ∧ n ≤ c ∧ c ≤ maxLen ∧ (a = none → xs = [] ∧ c = 0) := by
  obtain ⟨h1, h2, h3, h4, h5⟩ := SlN.len h
  refine ⟨h1, h2, h3, fun ha => ⟨List.eq_nil_of_length_eq_zero ?_, (h5 ha).2⟩⟩
  rw [h4, (h5 ha).1]
theorem Sl.at {w : World} {a : Addr} {xs : List Value} {n c : Nat} (h : Sl w (.slice (some a) n c) xs) {i : Nat} {x : Value} (hx : xs[i]? = some x) : w.cell? (a.add i) = some x := SlN.at h hx
theorem Sl.sub {w : World} {a : Option Addr} {xs : List Value} {n c : Nat} (h : Sl w (.slice a n c) xs) {l k m : Nat} (hl : l ≤ k) (hk : k ≤ n) (hm : k ≤ m) (hc : m ≤ c) :
    Sl w (.slice (if m = l then a else a.map (·.add l)) (k - l) (m - l)) ((xs.take k).drop l) := by
  have hn := h.len.1
  have := SlN.sub h hl hk hm hc
  unfold Sl
  have e : ((xs.take k).drop l).length = k - l := by simp; omega
  rw [e]
  simpa using this
theorem Sl.part {w : World} {a : Option Addr} {xs : List Value} {n c : Nat} (h : Sl w (.slice a n c) xs) {l k m : Int} (h0 : 0 ≤ l) (hl : l ≤ k) (hk : k ≤ n) (hm : k ≤ m) (hc : m ≤ c) :
    Sl w (.slice (slAddr a l m 1) (k - l).toNat (m - l).toNat) ((xs.take k.toNat).drop l.toNat) := by
  have hn := h.len.1
  have := SlN.part h h0 hl hk hm hc
  unfold Sl
  have e : ((xs.take k.toNat).drop l.toNat).length = (k - l).toNat := by simp; omega
  rw [e]
  simpa using this
/-- 'x[:len:len]'. -/
theorem SlN.full {w : World} {s : Nat} {a : Option Addr} {xs : List Value} {n n' c : Nat} (h : SlN w s (.slice a n c) n' xs) : SlN w s (.slice a n n) n' xs := by
  obtain ⟨rfl, h1, h2, h3, h0⟩ := h.len
  exact SlN.mk h3 (Nat.le_refl _) (by omega) (fun ha => ⟨(h0 ha).1, (h0 ha).1⟩) (fun b hb i x hx => by subst hb; exact h.at hx)
theorem Sl.full {w : World} {a : Option Addr} {xs : List Value} {n c : Nat} (h : Sl w (.slice a n c) xs) : Sl w (.slice a n n) xs := SlN.full h
/-- What a call owns reads as a slice. -/
theorem SlN.of_own {w : World} {base s : Nat} {e : TypeId} {v : Value} {n : Nat} {xs : List Value} (h : w.ownsRow base e s v n xs) : SlN w s v n xs := by
  obtain ⟨hl, h⟩ := h
  refine ⟨hl, ?_⟩
  rcases h with ⟨rfl, rfl⟩ | ⟨g, cap, cur, rfl, hb, hh, h1, h2, h3, h4⟩
  · exact .inl ⟨rfl, rfl⟩
  · refine .inr ⟨⟨g, 0, none⟩, cap, rfl, h1, h2, fun i x hx => ?_⟩
    rw [addr_add_eq, Nat.zero_add]
    have hi : i < n * s := by have := (List.getElem?_eq_some_iff.1 hx).1; omega
    simp only [World.cell?, hh]
    rw [← h4, List.getElem?_take, if_pos hi] at hx
    simpa using hx
theorem Sl.of_own {w : World} {base : Nat} {e : TypeId} {v : Value} {n : Nat} {xs : List Value} (h : w.ownsRow base e 1 v n xs) : Sl w v xs := by
  have := SlN.of_own h
  have e : n = xs.length := by have := h.1; omega
  subst e; exact this
theorem own_n {w : World} {base : Nat} {e : TypeId} {v : Value} {n : Nat} {xs : List Value} (h : w.ownsRow base e 1 v n xs) : n = xs.length := by have := h.1; omega
/-- Nothing of what a later world has left alone is lost to an owner. -/
theorem own_later {w w' : World} {base s : Nat} {e : TypeId} {v : Value} {n : Nat} {xs : List Value} (h : w.ownsRow base e s v n xs) (hl : Later w w') : w'.ownsRow base e s v n xs := by
  obtain ⟨h0, h⟩ := h
  refine ⟨h0, ?_⟩
  rcases h with h | ⟨g, cap, cur, hv, hb, hh, h⟩
  · exact .inl h
  · exact .inr ⟨g, cap, cur, hv, hb, (hl.heap (Array.getElem?_eq_some_iff.1 hh).1).trans hh, h⟩
theorem own_base {w : World} {base base' s : Nat} {e : TypeId} {v : Value} {n : Nat} {xs : List Value} (h : w.ownsRow base e s v n xs) (hb : base' ≤ base) : w.ownsRow base' e s v n xs := by
  obtain ⟨h0, h⟩ := h
  refine ⟨h0, ?_⟩
  rcases h with h | ⟨g, cap, cur, hv, hb', hh⟩
  · exact .inl h
  · exact .inr ⟨g, cap, cur, hv, Nat.le_trans hb hb', hh⟩

/-! ### append -/
theorem heap_new_drew (w : World) (o : Obj) : (w.drew.alloc o).heap[w.heap.size]? = some o := by
  show (w.heap.push o)[w.heap.size]? = _
  simp
theorem heap_old_drew (w : World) (o : Obj) (k : Nat) (hk : k < w.heap.size) : (w.drew.alloc o).heap[k]? = w.heap[k]? := by
  show (w.heap.push o)[k]? = _
  rw [Array.getElem?_push, if_neg (by omega)]
section
variable {P : Program} {w : World} {K : Value → World → Prop} {t e ty : TypeId} {z : Value} {s b : Nat}
theorem run_append_nil_src (ht : P.underlying t = some (.slice e)) (hi : (P.info? e).map (fun i => (i.zero, i.size, i.bytes)) = some (some z, s, b)) (o : Option Addr) (n c : Nat) (hn : n ≤ c) (ho : o = none → n = 0) :
    (Builtin.append_ #[t, t] ty #[.slice o n c, .slice none 0 0]).run P w = .ok (.slice o n c) w := by
  obtain ⟨i, hi1, _, _, _⟩ := info_parts hi
  cases o with
  | none => simp [Builtin.append_, run_underlying ht, sizeOf, typeInfo, hi1, Builtin.lenOf, Builtin.firstCells, hn]
  | some a => simp [Builtin.append_, run_underlying ht, sizeOf, typeInfo, hi1, Builtin.lenOf, Builtin.firstCells, hn, storeCells]
/-- Onto a slice of the call's own. -/
theorem vAppend_own (ht : P.underlying t = some (.slice e)) (hi : (P.info? e).map (fun i => (i.zero, i.size, i.bytes)) = some (some z, s, b)) (hzs : z.cells.size = s) (hsz : 0 < s)
    {base : Nat} {v x : Value} {n m : Nat} {xs news : List Value} (hown : w.ownsRow base e s v n xs) (hx : SlN w s x m news) (h1 : ∀ u ∈ news, u.oneCell' = true) (h63 : n + m ≤ maxLen) (hb : (n + m) * b ≤ 140737488355328) (hbase : base ≤ w.heap.size)
    (hK : ∀ v' w', w'.ownsRow base e s v' (n + m) (xs ++ news) → w.grownBy w' v.ownBlock → (v' = .slice none 0 0 ↔ v = .slice none 0 0 ∧ m = 0) → K v' w') : vAppend P #[t, t] ty #[v, x] K w := by
  obtain ⟨i, hi1, hz, hsi, hbi⟩ := info_parts hi
  unfold vAppend
  obtain ⟨hl, hx⟩ := hx
  rcases hx with ⟨rfl, rfl⟩ | ⟨a, c, rfl, hc1, hc2, hc3⟩
  · have hnews : news = [] := List.eq_nil_of_length_eq_zero (by simpa using hl)
    subst hnews
    have hsl := SlN.of_own hown
    obtain ⟨o, c, rfl, h1, h2, h3, h4, _⟩ := hsl.open
    rw [run_val_pure (run_append_nil_src ht hi o n c h1 (fun ho => (h4 ho).1))]
    refine hK _ _ (by simpa using hown) ⟨rfl, rfl, rfl, Nat.le_refl _, fun _ _ _ => rfl⟩ ?_
    constructor
    · intro h; exact ⟨h, rfl⟩
    · intro h; exact h.1
  · obtain ⟨v', w', hr, h2, h3, h4⟩ := run_append_own (P := P) w base t ty e i z s b ht hi1 hz hsi hbi hzs hsz v n xs hown a m c news hl hc3 h1 h63 hb hbase
    rw [run_val_pure hr]
    exact hK _ _ h2 h3 h4
/-- Onto a slice without room: what comes is the call's own. -/
theorem vAppend_full (ht : P.underlying t = some (.slice e)) (hi : (P.info? e).map (fun i => (i.zero, i.size, i.bytes)) = some (some z, s, b)) (hzs : z.cells.size = s)
    {base : Nat} {o : Option Addr} {x : Value} {n m : Nat} {xs news : List Value} (hv : SlN w s (.slice o n n) n xs) (hx : SlN w s x m news) (hm : 0 < m) (h63 : n + m ≤ maxLen) (hb : (n + m) * b ≤ 140737488355328) (hbase : base ≤ w.heap.size)
    (hK : ∀ v' w', w'.ownsRow base e s v' (n + m) (xs ++ news) → Later w w' → K v' w') : vAppend P #[t, t] ty #[.slice o n n, x] K w := by
  obtain ⟨i, hi1, hz, rfl, rfl⟩ := info_parts hi
  unfold vAppend
  obtain ⟨hl, hx⟩ := hx
  rcases hx with ⟨rfl, rfl⟩ | ⟨a, c, rfl, hc1, hc2, hc3⟩
  · omega
  have hsmall : n + m ≤ 9223372036854775807 := by simp only [maxLen] at h63; omega
  obtain ⟨_, _, hnm, hxl, h0⟩ := hv.len
  have grown : ∀ (old : Nat), (w.drew.alloc (.cells (xs.toArray ++ news.toArray ++ Builtin.zeroCells z.cells (grownCap w (n + m) old e - (n + m))) e)).ownsRow base e i.size
        (.slice (some ⟨w.heap.size, 0, none⟩) (n + m) (grownCap w (n + m) old e)) (n + m) (xs ++ news) ∧
      Later w (w.drew.alloc (.cells (xs.toArray ++ news.toArray ++ Builtin.zeroCells z.cells (grownCap w (n + m) old e - (n + m))) e)) := by
    intro old
    have hge := grownCap_ge w (n + m) old e
    have hcm : grownCap w (n + m) old e ≤ maxLen := grownCap_le_maxLen w (n + m) old e h63
    refine ⟨⟨by rw [List.length_append, hxl, hl, Nat.add_mul], .inr ⟨w.heap.size, _, _, rfl, hbase, heap_new_drew w _, hge, hcm, ?_, ?_⟩⟩, ⟨rfl, rfl, rfl, by simp, fun k hk => heap_old_drew w _ k hk⟩⟩
    · simp only [Array.size_append, List.size_toArray, size_zeroCells, hzs, hxl, hl, ← Nat.add_mul]
      congr 1
      omega
    · simp only [Array.toList_append, List.append_assoc]
      rw [← List.append_assoc]
      have : (n + m) * i.size = (xs ++ news).length := by rw [List.length_append, hxl, hl, Nat.add_mul]
      rw [this]
      exact List.take_left
  cases o with
  | none =>
    obtain ⟨rfl, _⟩ := h0 rfl
    have hxs : xs = [] := List.eq_nil_of_length_eq_zero (by simpa using hxl)
    subst hxs
    have hr := run_append_nil (P := P) w t ty e i z ht hi1 hz a m c news hl hc3 (by omega) (by omega) (by have hb := hb; simp only [Nat.zero_add] at hb; omega)
    have hg := grown 0
    simp only [Nat.zero_add, List.nil_append, Array.empty_append] at hg
    rw [run_val_pure hr]
    exact hK _ _ (by simpa using hg.1) hg.2
  | some ad =>
    have hr := run_append_grow (P := P) w t ty e i z ht hi1 hz ad n n xs hxl (fun j u hu => hv.at hu) a m c news hl hc3 (by omega) (by omega) (growslice_fits (by omega) hb)
    have hg := grown n
    rw [run_val_pure hr]
    exact hK _ _ hg.1 hg.2
end
theorem heap_new (w : World) (o : Obj) : (w.alloc o).heap[w.heap.size]? = some o := by
  show (w.heap.push o)[w.heap.size]? = _
  simp
/-- A literal's new block reads as the literal. -/
theorem SlN.lit (w : World) (l : List Value) (e : TypeId) (s n : Nat) (h : l.length = n * s) (hn : n ≤ maxLen) : SlN (w.alloc (.cells l.toArray e)) s (.slice (some ⟨w.heap.size, 0, none⟩) n n) n l := by
  refine SlN.mk h (Nat.le_refl _) hn (fun h => by cases h) ?_
  intro a ha i x hx
  simp only [Option.some.injEq] at ha
  subst ha
  rw [addr_add_eq, Nat.zero_add]
  have : (w.alloc (.cells l.toArray e)).heap[w.heap.size]? = some (.cells l.toArray e) := heap_new w _
  simp only [World.cell?, this]
  simpa using hx
theorem Sl.lit (w : World) (l : List Value) (e : TypeId) (hn : l.length ≤ maxLen) : Sl (w.alloc (.cells l.toArray e)) (.slice (some ⟨w.heap.size, 0, none⟩) l.length l.length) l := SlN.lit w l e 1 l.length (by simp) hn
theorem Sl.one (w : World) (x : Value) (e : TypeId) : Sl (w.alloc (.cells #[x] e)) (.slice (some ⟨w.heap.size, 0, none⟩) 1 1) [x] := Sl.lit w [x] e (by unfold maxLen; simp)
theorem own_nil (w : World) (base : Nat) (e : TypeId) (s : Nat) : w.ownsRow base e s (.slice none 0 0) 0 [] := World.ownsRow_nil w base e s
theorem own_alloc {w : World} {base s : Nat} {e : TypeId} {v : Value} {n : Nat} {xs : List Value} (h : w.ownsRow base e s v n xs) (o : Obj) : (w.alloc o).ownsRow base e s v n xs := World.ownsRow.alloc h o
/-- Behind an append onto a slice of the call's own: nothing that lay below has turned. -/
theorem Later.appended {w w2 w' : World} {base s n : Nat} {e : TypeId} {v : Value} {xs : List Value} (hl : Later w w2) (hown : w2.ownsRow base e s v n xs) (hb : w.heap.size ≤ base) (hg : w2.grownBy w' v.ownBlock) : Later w w' :=
  hl.grown hg fun k hk => by have := (World.ownsRow.lt hown) k hk; omega
/-- One element of one cell behind a slice of the call's own. -/
theorem vAppend_one {P : Program} {w : World} {K : Value → World → Prop} {t e ty : TypeId} {z : Value} {b : Nat} (ht : P.underlying t = some (.slice e)) (hi : (P.info? e).map (fun i => (i.zero, i.size, i.bytes)) = some (some z, 1, b)) (hzs : z.cells.size = 1)
    {base : Nat} {v x : Value} {n : Nat} {xs : List Value} (hown : w.ownsRow base e 1 v n xs) (h1 : x.oneCell' = true) (h63 : n + 1 ≤ maxLen) (hb : (n + 1) * b ≤ 140737488355328) (hbase : base ≤ w.heap.size)
    (hK : ∀ v' w', w'.ownsRow base e 1 v' (n + 1) (xs ++ [x]) → (∀ w0, Later w0 w → w0.heap.size ≤ base → Later w0 w') → K v' w') : vAppend P #[t, t] ty #[v, .slice (some ⟨w.heap.size, 0, none⟩) 1 1] K (w.alloc (.cells #[x] e)) := by
  refine vAppend_own ht hi hzs (by omega) (own_alloc hown _) (Sl.one w x e) (by simpa using h1) h63 hb (by simp; omega) ?_
  intro v' w' ho hg _
  exact hK v' w' ho fun w0 hl hb => (hl.alloc _).appended (own_alloc hown _) hb hg
/-! ### bytes and texts -/
/-- A byte. -/
def u8v (c : UInt8) : Value := .int .u8 c.toNat
theorem u8v_one (c : UInt8) : (u8v c).oneCell' = true := rfl
theorem u8vs_one (l : List UInt8) : ∀ u ∈ l.map u8v, u.oneCell' = true := by
  intro u hu
  obtain ⟨c, _, rfl⟩ := List.mem_map.1 hu
  rfl
/-- The text of bytes. -/
def strOf (l : List UInt8) : ByteArray := ⟨l.toArray⟩
theorem strOf_inj {a b : List UInt8} : strOf a = strOf b ↔ a = b := by
  constructor
  · intro h; have := congrArg (fun x : ByteArray => x.data.toList) h; simpa [strOf] using this
  · intro h; rw [h]
theorem strOf_size (l : List UInt8) : (strOf l).size = l.length := rfl
theorem strOf_append (a b : List UInt8) : strOf a ++ strOf b = strOf (a ++ b) := by
  apply ByteArray.ext
  simp [strOf, ByteArray.data_append]
theorem strOf_data (s : ByteArray) : strOf s.data.toList = s := by cases s; rfl
section
variable {P : Program} {w : World} {K : Value → World → Prop}
theorem cellsAt_of (n : Nat) : ∀ (a : Addr) (xs : List Value), xs.length = n → (∀ i x, xs[i]? = some x → w.cell? (a.add i) = some x) → cellsAt w a n = some xs := by
  induction n with
  | zero => intro a xs h _; simp [cellsAt, List.eq_nil_of_length_eq_zero h]
  | succ n ih =>
    intro a xs h hc
    cases xs with
    | nil => simp at h
    | cons x xs =>
      have h0 := hc 0 x rfl
      rw [addr_add_zero] at h0
      simp only [cellsAt, h0]
      rw [ih (a.add 1) xs (by simpa using h) (fun i y hy => by
        rw [addr_add_add, Nat.add_comm 1 i]; exact hc (i + 1) y (by simpa using hy))]
theorem foldl_push (l : List UInt8) : ∀ s : ByteArray, (l.map fun c => ((c.toNat : Nat) : Int)).foldl (fun r n => r.push (UInt8.ofNat n.toNat)) s = s ++ strOf l := by
  induction l with
  | nil => intro s; simp [strOf]; apply ByteArray.ext; simp
  | cons c l ih =>
    intro s
    simp only [List.map_cons, List.foldl_cons, Int.toNat_natCast, UInt8.ofNat_toNat]
    rw [ih]
    apply ByteArray.ext
    simp [strOf, ByteArray.data_append]
theorem run_conv_bytes {s d e : TypeId} (hs : P.underlying s = some (.slice e)) (hd : P.underlying d = some .string) (he : P.underlying e = some (.int .u8)) {v : Value} {l : List UInt8} (h : Sl w v (l.map u8v)) :
    (convert s d v).run P w = .ok (.string (strOf l)) w := by
  obtain ⟨o, c, rfl, h1, h2, h3, h4⟩ := h.open
  rw [run_convert_bytes_string w s d e o _ c hs he hd]
  cases o with
  | none =>
    obtain ⟨h5, _⟩ := h3 rfl
    have : l = [] := by simpa using h5
    subst this
    rfl
  | some a =>
    have hc : (loadCells a (l.map u8v).length).run P w = .ok ((l.map fun c => ((c.toNat : Nat) : Int)).map (Value.int .u8)).toArray w := by
      rw [run_loadCells' (cs := l.map u8v) (cellsAt_of _ a _ rfl (h4 a rfl))]
      simp [u8v, Function.comp_def]
    rw [run_bytesToString w a _ c _ hc, foldl_push]
    have : ByteArray.empty ++ strOf l = strOf l := by apply ByteArray.ext; simp [strOf, ByteArray.data_append]
    rw [this]
theorem vConv_bytes {s d e : TypeId} (hs : P.underlying s = some (.slice e)) (hd : P.underlying d = some .string) (he : P.underlying e = some (.int .u8)) {o : Option Addr} {n c : Nat} {l : List UInt8} (h : Sl w (.slice o n c) (l.map u8v)) (hk : K (.string (strOf l)) w) :
    vConvD P s d (some (.slice e)) (some .string) (.slice o n c) K w := by
  show vcUp P K ((val (convert s d (.slice o n c))).run P w)
  rw [run_val_pure (run_conv_bytes hs hd he h)]; exact hk
theorem qConv_bytes {s d e ty : TypeId} {x : Operand} {σ : Env} {K : Value → Prop} (hs : P.underlying s = some (.slice e)) (hd : P.underlying d = some .string) (he : P.underlying e = some (.int .u8)) {o : Option Addr} {n c : Nat} {l : List UInt8} (hx : ev σ x = .slice o n c) (h : Sl w (.slice o n c) (l.map u8v)) (hk : K (.string (strOf l))) :
    qConv P s d x ty σ (some (.slice e)) (some .string) (.slice o n c) K w := by
  unfold qConv
  refine ⟨.string (strOf l), fun w' hl => ?_, hk⟩
  have : exe P (.convert s d x) ty σ w' = .ok (.value (.string (strOf l))) w' := by
    unfold exe; simp only [execOp]
    rw [hx]; exact run_val_pure (run_conv_bytes hs hd he (h.later hl))
  rw [this]; exact ⟨rfl, rfl⟩
/-- A slice of bytes that hangs on the world, as a text. -/
theorem nR_conv {s d e ty : TypeId} {σ : Env} {t : Nat} {rs : List Nat} {Ns : NS} {V : Value → World → Prop} {l : List UInt8} {Kv : Value → Prop} {Kn : (Value → World → Prop) → Prop} (hs : P.underlying s = some (.slice e)) (hd : P.underlying d = some .string) (he : P.underlying e = some (.int .u8))
    (ht : t ∈ rs) (hf : findN t Ns = some V) (hV : ∀ x w', Later w w' → V x w' → Sl w' x (l.map u8v)) (hk : Kv (.string (strOf l))) : nR P (.convert s d (.tmp t)) ty rs Ns σ w Kv Kn := by
  refine .inl ⟨.string (strOf l), fun σ' w' hl hp => nUp_pure ?_ rfl, hk⟩
  unfold exe
  simp only [execOp, ev]
  exact run_val_pure (run_conv_bytes hs hd he (hV _ w' hl (psis_V hp ht hf)))
/-- What a slice of bytes holds, in every later world. -/
theorem stb_sl (w0 : World) (xs : List Value) : Stb w0 (fun v w => Sl w v xs) := fun _ _ _ _ hl h => h.later hl
/-- A text behind a slice of the call's own. -/
theorem vAppend_str {t u e ty : TypeId} (ht : P.underlying t = some (.slice e)) (hu : P.underlying u = some .string) (hi : (P.info? e).map (fun i => (i.zero, i.size, i.bytes)) = some (some (.int .u8 0), 1, 1))
    {base : Nat} {v : Value} {s : ByteArray} {n : Nat} {xs : List Value} (hown : w.ownsRow base e 1 v n xs) (h63 : n + s.size ≤ 140737488355328) (hbase : base ≤ w.heap.size)
    (hK : ∀ v' w', w'.ownsRow base e 1 v' (n + s.size) (xs ++ s.data.toList.map u8v) → (∀ w0, Later w0 w → w0.heap.size ≤ base → Later w0 w') → K v' w') : vAppend P #[t, u] ty #[v, .string s] K w := by
  obtain ⟨i, hi1, hz, hsi, hbi⟩ := info_parts hi
  obtain ⟨v', w', hr, h2, h3, h4⟩ := Lib.run_append_own_string (P := P) w base t u ty e i ht hu hi1 hz hsi hbi v n xs hown s (by unfold maxLen; omega) h63 hbase
  unfold vAppend
  rw [run_val_pure hr]
  exact hK _ _ h2 fun w0 hl hb => hl.appended hown hb h3
end
/-- A slice that a call owns, as bytes. -/
def OwnB (w : World) (B : Nat) (e : TypeId) (v : Value) (l : List UInt8) : Prop := w.ownsRow B e 1 v l.length (l.map u8v)
theorem OwnB.sl {w : World} {B : Nat} {e : TypeId} {v : Value} {l : List UInt8} (h : OwnB w B e v l) : Sl w v (l.map u8v) := Sl.of_own h
theorem OwnB.later {w w' : World} {B : Nat} {e : TypeId} {v : Value} {l : List UInt8} (h : OwnB w B e v l) (hl : Later w w') : OwnB w' B e v l := own_later h hl
theorem OwnB.base {w : World} {B B' : Nat} {e : TypeId} {v : Value} {l : List UInt8} (h : OwnB w B e v l) (hb : B' ≤ B) : OwnB w B' e v l := own_base h hb
theorem OwnB.slice {w : World} {B : Nat} {e : TypeId} {v : Value} {l : List UInt8} (h : OwnB w B e v l) : ∃ o c, v = .slice o l.length c := by
  obtain ⟨o, c, hv, _⟩ := h.sl.open
  exact ⟨o, c, by simpa using hv⟩
theorem Sl.slice {w : World} {v : Value} {l : List Value} (h : Sl w v l) : ∃ o c, v = .slice o l.length c := by
  obtain ⟨o, c, hv, _⟩ := h.open
  exact ⟨o, c, hv⟩
end Go.Vc
