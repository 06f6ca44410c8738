/- What is known of memory: slices that read as lists, slices that a call owns, worlds that have only grown. -/
import Derived.Lib.ConvBytes
import Derived.Lib.AppendStr
import Derived.Laws.BytesArg
import Derived.Laws.MakeOwn
import Derived.Lib.SlBytesConst
import Derived.Carry
import Derived.OpenShut
import Derived.ProofKit
import Derived.Laws.StructEq
import Derived.Maps.AppendAt
import Derived.Test.YtnofalhkapmcnaaGreatProg
import Derived.ChangeSame
import Derived.SizedLaws
import Derived.HandedShaped
import Derived.Test.YtnofalhkapmcnaaGreatPartD
set_option linter.all false
section
namespace Go.Vc
open Go.RowKit
/-! ### worlds that have only grown -/
theorem Later.size {w w' : World} (h : Later w w') : w.heap.size ≤ w'.heap.size := Below.size h
theorem Later.alloc {w w' : World} (h : Later w w') (o : Obj) : Later w (w'.alloc o) := Below.alloc h (Below.size h) o
theorem later_alloc (w : World) (o : Obj) : Later w (w.alloc o) := (Later.refl w).alloc o
theorem Later.setCell {w w' : World} (h : Later w w') {a : Addr} (ha : w.heap.size ≤ a.block) (v : Value) : Later w (w'.setCell a v) := Below.setCell h ha v
theorem Later.grown {w w1 w' : World} {row : Option Nat} (h : Later w w1) (hg : w1.grownBy w' row) (hr : ∀ k, row = some k → w.heap.size ≤ k) : Later w w' := Below.grown h hg (Below.size h) hr
theorem Later.frozen {w w' : World} (h : Later w w') {a : Addr} (ha : a.block < w.heap.size) : w'.frozen? a = w.frozen? a := Below.frozen h ha
theorem Later.heap {w w' : World} (h : Later w w') {b : Nat} (hb : b < w.heap.size) : w'.heap[b]? = w.heap[b]? := h.block b hb
/-! ### addresses -/
theorem addr_add_add (a : Addr) (m n : Nat) : (a.add m).add n = a.add (m + n) := by
  unfold Addr.add
  by_cases h1 : m = 0
  · subst h1; simp
  · by_cases h2 : n = 0
    · subst h2; simp [h1]
    · have : ¬ m + n = 0 := by omega
      simp [h1, h2, this, Nat.add_assoc]
theorem addr_add_block (a : Addr) (n : Nat) : (a.add n).block = a.block := by unfold Addr.add; split <;> rfl
theorem addr_add_eq (b o n : Nat) : (⟨b, o, none⟩ : Addr).add n = ⟨b, o + n, none⟩ := by unfold Addr.add; split <;> simp_all
theorem lt_of_cell {w : World} {a : Addr} {v : Value} (h : w.cell? a = some v) : a.block < w.heap.size := World.block_lt_of_cell? w a h
/-! ### slices that read as lists of cells: n elements of s cells each -/
def SlN (w : World) (s : Nat) (v : Value) (n : Nat) (xs : List Value) : Prop :=
  xs.length = n * s ∧ ((v = .slice none 0 0 ∧ n = 0) ∨ ∃ a c, v = .slice (some a) n c ∧ n ≤ c ∧ c ≤ maxLen ∧ ∀ i x, xs[i]? = some x → w.cell? (a.add i) = some x)
/-- Elements of one cell. -/
def Sl (w : World) (v : Value) (xs : List Value) : Prop := SlN w 1 v xs.length xs
theorem SlN.later {w w' : World} {s n : Nat} {v : Value} {xs : List Value} (h : SlN w s v n xs) (hl : Later w w') : SlN w' s v n xs := by
  obtain ⟨h0, h⟩ := h
  refine ⟨h0, ?_⟩
  rcases h with h | ⟨a, c, hv, h1, h2, h3⟩
  · exact .inl h
  · exact .inr ⟨a, c, hv, h1, h2, fun i x hx => hl.cell (h3 i x hx)⟩
theorem Sl.later {w w' : World} {v : Value} {xs : List Value} (h : Sl w v xs) (hl : Later w w') : Sl w' v xs := SlN.later h hl
/-- Opened: nil, or an address. -/
theorem SlN.open {w : World} {s n : Nat} {v : Value} {xs : List Value} (h : SlN w s v n xs) : ∃ o c, v = .slice o n c ∧ n ≤ c ∧ c ≤ maxLen ∧ xs.length = n * s ∧ (o = none → n = 0 ∧ c = 0) ∧ (∀ a, o = some a → ∀ i x, xs[i]? = some x → w.cell? (a.add i) = some x) := by
  obtain ⟨h0, h⟩ := h
  rcases h with ⟨rfl, rfl⟩ | ⟨a, c, rfl, h1, h2, h3⟩
  · exact ⟨none, 0, rfl, Nat.le_refl _, Nat.zero_le _, h0, fun _ => ⟨rfl, rfl⟩, by intro a ha; cases ha⟩
  · exact ⟨some a, c, rfl, h1, h2, h0, (fun h => by cases h), by intro a' ha; cases ha; exact h3⟩
theorem Sl.open {w : World} {v : Value} {xs : List Value} (h : Sl w v xs) : ∃ o c, v = .slice o xs.length c ∧ xs.length ≤ c ∧ c ≤ maxLen ∧ (o = none → xs = [] ∧ c = 0) ∧ (∀ a, o = some a → ∀ i x, xs[i]? = some x → w.cell? (a.add i) = some x) := by
  obtain ⟨o, c, hv, h1, h2, h3, h4, h5⟩ := SlN.open h
  exact ⟨o, c, hv, h1, h2, fun ho => ⟨List.eq_nil_of_length_eq_zero (h4 ho).1, (h4 ho).2⟩, h5⟩
theorem SlN.mk {w : World} {s : Nat} {o : Option Addr} {xs : List Value} {n c : Nat} (hn : xs.length = n * s) (h1 : n ≤ c) (h2 : c ≤ maxLen) (h0 : o = none → n = 0 ∧ c = 0) (h3 : ∀ a, o = some a → ∀ i x, xs[i]? = some x → w.cell? (a.add i) = some x) : SlN w s (.slice o n c) n xs := by
  refine ⟨hn, ?_⟩
  cases o with
  | none => obtain ⟨rfl, rfl⟩ := h0 rfl; exact .inl ⟨rfl, rfl⟩
  | some a => exact .inr ⟨a, c, rfl, h1, h2, h3 a rfl⟩
theorem SlN.len {w : World} {s : Nat} {a : Option Addr} {xs : List Value} {n n' c : Nat} (h : SlN w s (.slice a n c) n' xs) : n = n' ∧ n ≤ c ∧ c ≤ maxLen ∧ xs.length = n * s ∧ (a = none → n = 0 ∧ c = 0) := by
  obtain ⟨o, c', hv, h1, h2, h0, h3, _⟩ := h.open
  simp only [Value.slice.injEq] at hv
  obtain ⟨rfl, rfl, rfl⟩ := hv
  exact ⟨rfl, h1, h2, h0, h3⟩
theorem SlN.at {w : World} {s : Nat} {a : Addr} {xs : List Value} {n n' c : Nat} (h : SlN w s (.slice (some a) n c) n' xs) {i : Nat} {x : Value} (hx : xs[i]? = some x) : w.cell? (a.add i) = some x := by
  obtain ⟨o, c', hv, h1, h2, h0, _, h3⟩ := h.open
  simp only [Value.slice.injEq] at hv
  obtain ⟨rfl, rfl, rfl⟩ := hv
  exact h3 a rfl i x hx
/-- A part of a slice: what 'x[l:h:m]' gives. -/
theorem SlN.sub {w : World} {s : Nat} {a : Option Addr} {xs : List Value} {n n' c : Nat} (h : SlN w s (.slice a n c) n' xs) {l k m : Nat} (hl : l ≤ k) (hk : k ≤ n) (hm : k ≤ m) (hc : m ≤ c) :
    SlN w s (.slice (if m = l then a else a.map (·.add (l * s))) (k - l) (m - l)) (k - l) ((xs.take (k * s)).drop (l * s)) := by
  obtain ⟨rfl, h1, h2, h3, h0⟩ := h.len
  have hks : k * s ≤ n * s := Nat.mul_le_mul_right _ hk
  have hls : l * s ≤ k * s := Nat.mul_le_mul_right _ hl
  refine SlN.mk (by simp [Nat.sub_mul]; omega) (by omega) (by omega) ?_ ?_
  · intro ho
    have ha : a = none := by
      split at ho
      · exact ho
      · cases a with | none => rfl | some _ => cases ho
    obtain ⟨rfl, rfl⟩ := h0 ha
    omega
  · intro b hb i x hx
    rw [List.getElem?_drop, List.getElem?_take] at hx
    split at hx
    · rename_i hlt
      split at hb
      · rename_i e
        have : k = l := by omega
        subst this; omega
      · cases a with
        | none => cases hb
        | some a =>
          simp only [Option.map_some, Option.some.injEq] at hb
          subst hb
          rw [addr_add_add]
          exact h.at hx
    · cases hx
theorem SlN.part {w : World} {s : Nat} {a : Option Addr} {xs : List Value} {n n' c : Nat} (h : SlN w s (.slice a n c) n' xs) {l k m : Int} (h0 : 0 ≤ l) (hl : l ≤ k) (hk : k ≤ n) (hm : k ≤ m) (hc : m ≤ c) :
    SlN w s (.slice (slAddr a l m s) (k - l).toNat (m - l).toNat) (k - l).toNat ((xs.take (k.toNat * s)).drop (l.toNat * s)) := by
  have := h.sub (l := l.toNat) (k := k.toNat) (m := m.toNat) (by omega) (by omega) (by omega) (by omega)
  have e1 : (m.toNat = l.toNat) = (m = l) := by rw [eq_iff_iff]; omega
  have e2 : (k - l).toNat = k.toNat - l.toNat := by omega
  have e3 : (m - l).toNat = m.toNat - l.toNat := by omega
  unfold slAddr
  rw [e2, e3]
  simpa only [e1] using this
theorem Sl.len {w : World} {a : Option Addr} {xs : List Value} {n c : Nat} (h : Sl w (.slice a n c) xs) : n = xs.length ∧ n ≤ c ∧ c ≤ maxLen ∧ (a = none → xs = [] ∧ c = 0) := by
  obtain ⟨h1, h2, h3, h4, h5⟩ := SlN.len h
  refine ⟨h1, h2, h3, fun ha => ⟨List.eq_nil_of_length_eq_zero ?_, (h5 ha).2⟩⟩
  rw [h4, (h5 ha).1]
theorem Sl.at {w : World} {a : Addr} {xs : List Value} {n c : Nat} (h : Sl w (.slice (some a) n c) xs) {i : Nat} {x : Value} (hx : xs[i]? = some x) : w.cell? (a.add i) = some x := SlN.at h hx
/-- What a call owns reads as a slice. -/
theorem SlN.of_own {w : World} {base s : Nat} {e : TypeId} {v : Value} {n : Nat} {xs : List Value} (h : w.ownsRow base e s v n xs) : SlN w s v n xs := by
  obtain ⟨hl, h⟩ := h
  refine ⟨hl, ?_⟩
  rcases h with ⟨rfl, rfl⟩ | ⟨g, cap, cur, rfl, hb, hh, h1, h2, h3, h4⟩
  · exact .inl ⟨rfl, rfl⟩
  · refine .inr ⟨⟨g, 0, none⟩, cap, rfl, h1, h2, fun i x hx => ?_⟩
    rw [addr_add_eq, Nat.zero_add]
    have hi : i < n * s := by have := (List.getElem?_eq_some_iff.1 hx).1; omega
    simp only [World.cell?, hh]
    rw [← h4, List.getElem?_take, if_pos hi] at hx
    simpa using hx
theorem Sl.of_own {w : World} {base : Nat} {e : TypeId} {v : Value} {n : Nat} {xs : List Value} (h : w.ownsRow base e 1 v n xs) : Sl w v xs := by
  have := SlN.of_own h
  have e : n = xs.length := by have := h.1; omega
  subst e; exact this
/-- Nothing of what a later world has left alone is lost to an owner. -/
theorem own_later {w w' : World} {base s : Nat} {e : TypeId} {v : Value} {n : Nat} {xs : List Value} (h : w.ownsRow base e s v n xs) (hl : Later w w') : w'.ownsRow base e s v n xs := by
  obtain ⟨h0, h⟩ := h
  refine ⟨h0, ?_⟩
  rcases h with h | ⟨g, cap, cur, hv, hb, hh, h⟩
  · exact .inl h
  · exact .inr ⟨g, cap, cur, hv, hb, (hl.heap (Array.getElem?_eq_some_iff.1 hh).1).trans hh, h⟩
theorem own_base {w : World} {base base' s : Nat} {e : TypeId} {v : Value} {n : Nat} {xs : List Value} (h : w.ownsRow base e s v n xs) (hb : base' ≤ base) : w.ownsRow base' e s v n xs := by
  obtain ⟨h0, h⟩ := h
  refine ⟨h0, ?_⟩
  rcases h with h | ⟨g, cap, cur, hv, hb', hh⟩
  · exact .inl h
  · exact .inr ⟨g, cap, cur, hv, Nat.le_trans hb hb', hh⟩
/-! ### append -/
section
variable {P : Program} {w : World} {K : Value → World → Prop} {t e ty : TypeId} {z : Value} {s b : Nat}
theorem run_append_nil_src (ht : P.underlying t = some (.slice e)) (hi : (P.info? e).map (fun i => (i.zero, i.size, i.bytes)) = some (some z, s, b)) (o : Option Addr) (n c : Nat) (hn : n ≤ c) (ho : o = none → n = 0) :
    (Builtin.append_ #[t, t] ty #[.slice o n c, .slice none 0 0]).run P w = .ok (.slice o n c) w := by
  obtain ⟨i, hi1, _, _, _⟩ := info_parts hi
  cases o with
  | none => simp [Builtin.append_, run_underlying ht, sizeOf, typeInfo, hi1, Builtin.lenOf, Builtin.firstCells, hn]
  | some a => simp [Builtin.append_, run_underlying ht, sizeOf, typeInfo, hi1, Builtin.lenOf, Builtin.firstCells, hn, storeCells]
/-- Onto a slice of the call's own. -/
theorem vAppend_own (ht : P.underlying t = some (.slice e)) (hi : (P.info? e).map (fun i => (i.zero, i.size, i.bytes)) = some (some z, s, b)) (hzs : z.cells.size = s) (hsz : 0 < s)
    {base : Nat} {v x : Value} {n m : Nat} {xs news : List Value} (hown : w.ownsRow base e s v n xs) (hx : SlN w s x m news) (h1 : ∀ u ∈ news, u.oneCell' = true) (h63 : n + m ≤ maxLen) (hb : (n + m) * b ≤ 140737488355328) (hbase : base ≤ w.heap.size)
    (hK : ∀ v' w', w'.ownsRow base e s v' (n + m) (xs ++ news) → w.grownBy w' v.ownBlock → (v' = .slice none 0 0 ↔ v = .slice none 0 0 ∧ m = 0) → K v' w') : vAppend P #[t, t] ty #[v, x] K w := by
  obtain ⟨i, hi1, hz, hsi, hbi⟩ := info_parts hi
  unfold vAppend
  obtain ⟨hl, hx⟩ := hx
  rcases hx with ⟨rfl, rfl⟩ | ⟨a, c, rfl, hc1, hc2, hc3⟩
  · have hnews : news = [] := List.eq_nil_of_length_eq_zero (by simpa using hl)
    subst hnews
    have hsl := SlN.of_own hown
    obtain ⟨o, c, rfl, h1, h2, h3, h4, _⟩ := hsl.open
    rw [run_val_pure (run_append_nil_src ht hi o n c h1 (fun ho => (h4 ho).1))]
    refine hK _ _ (by simpa using hown) ⟨rfl, rfl, rfl, Nat.le_refl _, fun _ _ _ => rfl⟩ ?_
    constructor
    · intro h; exact ⟨h, rfl⟩
    · intro h; exact h.1
  · obtain ⟨v', w', hr, h2, h3, h4⟩ := run_append_own (P := P) w base t ty e i z s b ht hi1 hz hsi hbi hzs hsz v n xs hown a m c news hl hc3 h1 h63 hb hbase
    rw [run_val_pure hr]
    exact hK _ _ h2 h3 h4
end
theorem heap_new (w : World) (o : Obj) : (w.alloc o).heap[w.heap.size]? = some o := by
  show (w.heap.push o)[w.heap.size]? = _
  simp
/-- A literal's new block reads as the literal. -/
theorem SlN.lit (w : World) (l : List Value) (e : TypeId) (s n : Nat) (h : l.length = n * s) (hn : n ≤ maxLen) : SlN (w.alloc (.cells l.toArray e)) s (.slice (some ⟨w.heap.size, 0, none⟩) n n) n l := by
  refine SlN.mk h (Nat.le_refl _) hn (fun h => by cases h) ?_
  intro a ha i x hx
  simp only [Option.some.injEq] at ha
  subst ha
  rw [addr_add_eq, Nat.zero_add]
  have : (w.alloc (.cells l.toArray e)).heap[w.heap.size]? = some (.cells l.toArray e) := heap_new w _
  simp only [World.cell?, this]
  simpa using hx
theorem Sl.lit (w : World) (l : List Value) (e : TypeId) (hn : l.length ≤ maxLen) : Sl (w.alloc (.cells l.toArray e)) (.slice (some ⟨w.heap.size, 0, none⟩) l.length l.length) l := SlN.lit w l e 1 l.length (by simp) hn
theorem Sl.one (w : World) (x : Value) (e : TypeId) : Sl (w.alloc (.cells #[x] e)) (.slice (some ⟨w.heap.size, 0, none⟩) 1 1) [x] := Sl.lit w [x] e (by unfold maxLen; simp)
theorem own_nil (w : World) (base : Nat) (e : TypeId) (s : Nat) : w.ownsRow base e s (.slice none 0 0) 0 [] := World.ownsRow_nil w base e s
theorem own_alloc {w : World} {base s : Nat} {e : TypeId} {v : Value} {n : Nat} {xs : List Value} (h : w.ownsRow base e s v n xs) (o : Obj) : (w.alloc o).ownsRow base e s v n xs := World.ownsRow.alloc h o
/-- Behind an append onto a slice of the call's own: nothing that lay below has turned. -/
theorem Later.appended {w w2 w' : World} {base s n : Nat} {e : TypeId} {v : Value} {xs : List Value} (hl : Later w w2) (hown : w2.ownsRow base e s v n xs) (hb : w.heap.size ≤ base) (hg : w2.grownBy w' v.ownBlock) : Later w w' :=
  hl.grown hg fun k hk => by have := (World.ownsRow.lt hown) k hk; omega
/-- One element of one cell behind a slice of the call's own. -/
theorem vAppend_one {P : Program} {w : World} {K : Value → World → Prop} {t e ty : TypeId} {z : Value} {b : Nat} (ht : P.underlying t = some (.slice e)) (hi : (P.info? e).map (fun i => (i.zero, i.size, i.bytes)) = some (some z, 1, b)) (hzs : z.cells.size = 1)
    {base : Nat} {v x : Value} {n : Nat} {xs : List Value} (hown : w.ownsRow base e 1 v n xs) (h1 : x.oneCell' = true) (h63 : n + 1 ≤ maxLen) (hb : (n + 1) * b ≤ 140737488355328) (hbase : base ≤ w.heap.size)
    (hK : ∀ v' w', w'.ownsRow base e 1 v' (n + 1) (xs ++ [x]) → (∀ w0, Later w0 w → w0.heap.size ≤ base → Later w0 w') → K v' w') : vAppend P #[t, t] ty #[v, .slice (some ⟨w.heap.size, 0, none⟩) 1 1] K (w.alloc (.cells #[x] e)) := by
  refine vAppend_own ht hi hzs (by omega) (own_alloc hown _) (Sl.one w x e) (by simpa using h1) h63 hb (by simp; omega) ?_
  intro v' w' ho hg _
  exact hK v' w' ho fun w0 hl hb => (hl.alloc _).appended (own_alloc hown _) hb hg
/-! ### bytes and texts -/
/-- The text of bytes. -/
def strOf (l : List UInt8) : ByteArray := ⟨l.toArray⟩
theorem strOf_data (s : ByteArray) : strOf s.data.toList = s := by cases s; rfl
section
variable {P : Program} {w : World} {K : Value → World → Prop}
theorem cellsAt_of (n : Nat) : ∀ (a : Addr) (xs : List Value), xs.length = n → (∀ i x, xs[i]? = some x → w.cell? (a.add i) = some x) → cellsAt w a n = some xs := by
  induction n with
  | zero => intro a xs h _; simp [cellsAt, List.eq_nil_of_length_eq_zero h]
  | succ n ih =>
    intro a xs h hc
    cases xs with
    | nil => simp at h
    | cons x xs =>
      have h0 := hc 0 x rfl
      rw [addr_add_zero] at h0
      simp only [cellsAt, h0]
      rw [ih (a.add 1) xs (by simpa using h) (fun i y hy => by
        rw [addr_add_add, Nat.add_comm 1 i]; exact hc (i + 1) y (by simpa using hy))]
end
theorem Sl.slice {w : World} {v : Value} {l : List Value} (h : Sl w v l) : ∃ o c, v = .slice o l.length c := by
  obtain ⟨o, c, hv, _⟩ := h.open
  exact ⟨o, c, hv⟩
end Go.Vc
end
section
namespace Go.Vc
open Go.RowKit
/-- A block's cells, none frozen. -/
def Blk (w : World) (k : Nat) (cs : Array Value) (e : TypeId) : Prop := w.heap[k]? = some (.cells cs e (0, 0))
theorem Blk.lt {w : World} {k : Nat} {cs : Array Value} {e : TypeId} (h : Blk w k cs e) : k < w.heap.size := by
  unfold Blk at h
  by_cases hk : k < w.heap.size
  · exact hk
  · rw [Array.getElem?_eq_none (by omega)] at h; cases h
theorem Blk.cell {w : World} {k : Nat} {cs : Array Value} {e : TypeId} (h : Blk w k cs e) (i : Nat) : w.cell? ⟨k, i, none⟩ = cs[i]? := by
  unfold Blk at h
  simp [World.cell?, h]
theorem Blk.frozen {w : World} {k : Nat} {cs : Array Value} {e : TypeId} (h : Blk w k cs e) (i : Nat) : w.frozen? ⟨k, i, none⟩ = false := by
  unfold Blk at h
  simp [World.frozen?, h]
theorem Blk.set {w : World} {k : Nat} {cs : Array Value} {e : TypeId} (h : Blk w k cs e) (i : Nat) (v : Value) : Blk (w.setCell ⟨k, i, none⟩ v) k (cs.setIfInBounds i v) e := by
  unfold Blk at h ⊢
  simp [World.setCell, Array.getElem?_modify, h]
theorem Blk.new (w : World) (cs : Array Value) (e : TypeId) : Blk (w.alloc (.cells cs e)) w.heap.size cs e := heap_new w _
theorem heap_alloc {w : World} {k : Nat} (h : k < w.heap.size) (o : Obj) : (w.alloc o).heap[k]? = w.heap[k]? := by
  show (w.heap.push o)[k]? = _
  rw [Array.getElem?_push, if_neg (by omega)]
theorem Blk.alloc {w : World} {k : Nat} {cs : Array Value} {e : TypeId} (h : Blk w k cs e) (o : Obj) : Blk (w.alloc o) k cs e := by
  have := heap_alloc h.lt o
  unfold Blk at h ⊢
  rw [this, h]
/-- Behind w, but for the blocks of ks. -/
structure Chg (w w' : World) (ks : List Nat) : Prop where
  os : w'.os = w.os
  tape : w'.tape = w.tape
  output : w'.output = w.output
  size : w.heap.size ≤ w'.heap.size
  block : ∀ k, k < w.heap.size → k ∉ ks → w'.heap[k]? = w.heap[k]?
theorem Chg.refl (w : World) (ks : List Nat) : Chg w w ks := ⟨rfl, rfl, rfl, Nat.le_refl _, fun _ _ _ => rfl⟩
theorem Chg.trans {a b c : World} {ks : List Nat} (h : Chg a b ks) (g : Chg b c ks) : Chg a c ks :=
  ⟨g.os.trans h.os, g.tape.trans h.tape, g.output.trans h.output, Nat.le_trans h.size g.size, fun k hk hn => (g.block k (Nat.lt_of_lt_of_le hk h.size) hn).trans (h.block k hk hn)⟩
theorem Chg.of_later {a b : World} {ks : List Nat} (h : Later a b) : Chg a b ks := ⟨h.os, h.tape, h.output, h.size, fun k hk _ => h.block k hk⟩
theorem Chg.later {a b c : World} {ks : List Nat} (h : Later a b) (g : Chg b c ks) (hk : ∀ k ∈ ks, a.heap.size ≤ k) : Later a c :=
  ⟨g.os.trans h.os, g.tape.trans h.tape, g.output.trans h.output, Nat.le_trans h.size g.size, fun k hka => (g.block k (Nat.lt_of_lt_of_le hka h.size) fun hm => by have := hk k hm; omega).trans (h.block k hka)⟩
theorem chg_setCell (w : World) {k i : Nat} {ks : List Nat} (hk : k ∈ ks) (v : Value) : Chg w (w.setCell ⟨k, i, none⟩ v) ks :=
  ⟨rfl, rfl, rfl, by simp [World.setCell], fun j _ hn => by
    have : k ≠ j := fun e => hn (e ▸ hk)
    simp [World.setCell, Array.getElem?_modify, this]⟩
theorem Blk.chg {w w' : World} {ks : List Nat} {k : Nat} {cs : Array Value} {e : TypeId} (h : Blk w k cs e) (g : Chg w w' ks) (hk : k ∉ ks) : Blk w' k cs e := by
  have := g.block k h.lt hk
  unfold Blk at h ⊢
  rw [this, h]
/-- The block that a slice lies in, if it has an element. -/
def inB (k : Nat) : Value → Prop
  | .slice (some a) n _ => n = 0 ∨ a.block = k
  | _ => True
theorem SlN.chg {w w' : World} {s n : Nat} {v : Value} {xs : List Value} {ks : List Nat} {k : Nat} (h : SlN w s v n xs) (g : Chg w w' ks) (hk : k ∉ ks) (hv : inB k v) : SlN w' s v n xs := by
  obtain ⟨o, c, rfl, h1, h2, h3, h4, h5⟩ := h.open
  refine SlN.mk h3 h1 h2 h4 fun a ha i x hx => ?_
  have hc := h5 a ha i x hx
  have hlt := lt_of_cell hc
  rw [addr_add_block] at hlt
  subst ha
  have hb : a.block = k := by
    rcases hv with h0 | h
    · subst h0
      simp only [Nat.zero_mul] at h3
      rw [List.eq_nil_of_length_eq_zero h3] at hx; cases hx
    · exact h
  have e := g.block a.block hlt (hb ▸ hk)
  rw [← addr_add_block a i] at e
  unfold World.cell? at hc ⊢
  rw [e]; exact hc
theorem Sl.chg {w w' : World} {v : Value} {xs : List Value} {ks : List Nat} {k : Nat} (h : Sl w v xs) (g : Chg w w' ks) (hk : k ∉ ks) (hv : inB k v) : Sl w' v xs := SlN.chg h g hk hv
/-- A literal's block is the call's own. -/
theorem own_lit (w : World) (l : List Value) (e : TypeId) (s n : Nat) (h : l.length = n * s) (hn : n ≤ maxLen) {base : Nat} (hb : base ≤ w.heap.size) : (w.alloc (.cells l.toArray e)).ownsRow base e s (.slice (some ⟨w.heap.size, 0, none⟩) n n) n l := by
  refine ⟨h, .inr ⟨w.heap.size, n, l.toArray, rfl, hb, heap_new w _, Nat.le_refl _, hn, by simpa using h, ?_⟩⟩
  rw [← h]; simp
end Go.Vc
end
section
namespace Go.Vc
open Go.RowKit
section
variable {P : Program} {w : World} {K : Value → World → Prop} {t e : TypeId} {z : Value} {b : Nat}
end
/-- A slice that begins a block of the same number of cells. -/
theorem Sl.of_blk {w : World} {k n : Nat} {xs : List Value} {e : TypeId} (h : Blk w k xs.toArray e) (hn : n = xs.length) (hm : n ≤ maxLen) : Sl w (.slice (some ⟨k, 0, none⟩) n n) xs := by
  subst hn
  refine SlN.mk (by simp) (Nat.le_refl _) hm (fun h => by cases h) ?_
  intro a ha i x hx
  simp only [Option.some.injEq] at ha
  subst ha
  rw [addr_add_eq, Nat.zero_add, h.cell]
  simpa using hx
/-- One cell of what a call owns, written. -/
theorem own_set {w : World} {base n : Nat} {e : TypeId} {k c m i : Nat} {xs : List Value} (h : w.ownsRow base e 1 (.slice (some ⟨k, 0, none⟩) m c) n xs) (hi : i < n) (v : Value) : (w.setCell ⟨k, i, none⟩ v).ownsRow base e 1 (.slice (some ⟨k, 0, none⟩) m c) n (xs.set i v) ∧ (∃ y, w.cell? ⟨k, i, none⟩ = some y) ∧ w.frozen? ⟨k, i, none⟩ = false := by
  obtain ⟨h0, h⟩ := h
  rcases h with ⟨h, _⟩ | ⟨g, cap, cur, hv, hb, hh, h1, h2, h3, h4⟩
  · cases h
  · simp only [Value.slice.injEq, Option.some.injEq] at hv
    obtain ⟨e1, rfl, rfl⟩ := hv
    have hg : g = k := by have := congrArg Addr.block e1; simpa using this.symm
    subst hg
    have hB : Blk w g cur e := hh
    have hsz : cur.size = c := by simpa using h3
    refine ⟨⟨by simpa using h0, .inr ⟨g, c, cur.setIfInBounds i v, rfl, hb, hB.set i v, h1, h2, by simpa using h3, ?_⟩⟩, ?_, hB.frozen i⟩
    · rw [← h4]; simp [List.take_set]
    · rw [hB.cell]; exact ⟨cur[i], Array.getElem?_eq_getElem (by omega)⟩
/-! ### a block that is new, of one cell: looked at, written -/
section
variable {w : World} {e : TypeId}
@[push_cast] theorem cell_new1 (z : Value) : (w.alloc (.cells #[z] e)).cell? ⟨w.heap.size, 0, none⟩ = some z := (Blk.new w #[z] e).cell 0
@[push_cast] theorem frozen_new (cs : Array Value) (i : Nat) : (w.alloc (.cells cs e)).frozen? ⟨w.heap.size, i, none⟩ = false := (Blk.new w cs e).frozen i
@[push_cast] theorem set_new1 (z v : Value) : (w.alloc (.cells #[z] e)).setCell ⟨w.heap.size, 0, none⟩ v = w.alloc (.cells #[v] e) := by
  show World.setCell { w with heap := w.heap.push _ } _ _ = { w with heap := w.heap.push _ }
  simp only [World.setCell]
  congr 1
  apply Array.ext_getElem?
  intro i
  simp only [Array.getElem?_modify, Array.getElem?_push]
  by_cases h : i = w.heap.size
  · subst h; simp
  · rw [if_neg h, if_neg (fun e => h e.symm), if_neg h]
@[push_cast] theorem ex_some (z : Value) : (∃ y, some z = some y) = True := by simp
@[push_cast] theorem tr_and (p : Prop) : (True ∧ p) = p := by simp
end
theorem Sl.openM {α : Type} {f : α → Value} {w : World} {v : Value} {l : List α} (h : Sl w v (l.map f)) : ∃ o c, v = .slice o l.length c ∧ l.length ≤ c ∧ c ≤ 9223372036854775807 ∧ Sl w (.slice o l.length c) (l.map f) ∧ (o = none → l = [] ∧ c = 0) := by
  have h' := h
  obtain ⟨o, c, rfl, h1, h2, h3, _⟩ := h.open
  simp only [List.length_map] at h1 h'
  refine ⟨o, c, by simp, h1, by simpa [maxLen] using h2, h', fun ho => ⟨by simpa using (h3 ho).1, (h3 ho).2⟩⟩
theorem take_snoc {α : Type} (l : List α) (i : Nat) (h : i < l.length) : l.take (i + 1) = l.take i ++ [l[i]] := by
  rw [List.take_add_one, List.getElem?_eq_getElem h]; rfl
theorem Sl.some {α : Type} {f : α → Value} {w : World} {o : Option Addr} {l : List α} {n c : Nat} (h : Sl w (.slice o n c) (l.map f)) {i : Nat} (hi : i < l.length) : ∃ a, o = Option.some a := by
  cases o with
  | none => have := (h.len.2.2.2 rfl).1; simp at this; subst this; simp at hi
  | some a => exact ⟨a, rfl⟩
theorem Blk.cellsAt {w : World} {k : Nat} {l : List Value} {e : TypeId} (h : Blk w k l.toArray e) : cellsAt w ⟨k, 0, none⟩ l.length = some l := by
  refine cellsAt_of _ _ l rfl fun i x hx => ?_
  rw [addr_add_eq, Nat.zero_add, h.cell]; simpa using hx
end Go.Vc
end
section
namespace Go.Vc
open Go.RowKit
/-- Two rows of different types lie in different blocks: what grows one leaves the other. -/
theorem own_grown_ty {w w' : World} {base base' s s' n n' : Nat} {e e' : TypeId} {v v' : Value} {xs xs' : List Value} (h : w.ownsRow base e s v n xs) (hc : w.ownsRow base' e' s' v' n' xs') (hne : e ≠ e') (g : w.grownBy w' v'.ownBlock) : w'.ownsRow base e s v n xs := by
  obtain ⟨h0, h⟩ := h
  refine ⟨h0, ?_⟩
  rcases h with h | ⟨b, cap, cur, hv, hb, hh, h3⟩
  · exact .inl h
  · refine .inr ⟨b, cap, cur, hv, hb, ?_, h3⟩
    rw [g.block b (Blk.lt hh) ?_]
    · exact hh
    · obtain ⟨_, hc⟩ := hc
      rcases hc with ⟨rfl, _⟩ | ⟨b', cap', cur', rfl, _, hh', _⟩
      · simp [Value.ownBlock]
      · simp only [Value.ownBlock]
        intro he
        simp only [Option.some.injEq] at he
        subst he
        rw [hh] at hh'
        simp only [Option.some.injEq, Obj.cells.injEq] at hh'
        exact hne hh'.2.1
end Go.Vc
end
section
namespace Go.Vc
open Go.RowKit Go.ChangeShapes
section
variable {H : Type} {enc : TypeId × Value → H} {P : Program}
theorem trodAll_stays (hl : laidOutB P = true) {W W' : World} {sp' : Nat → Bool} : ∀ {ts : List TypeId} {vs : List Value} {ds : List (DataW H)} {ps : List MemPlace},
    (∀ t ∈ ts, P.readableRec t = true ∧ t < P.types.size) → DataW.TrodAll enc P W 0 (fun _ => true) true ts vs ds ps → (∀ p ∈ ps, W.sameAt W' p) → (∀ p ∈ ps, sp' p.block = true) → DataW.TrodAll enc P W' 0 sp' true ts vs ds ps
  | [], [], [], _, _, h, _, _ => h
  | t :: ts, v :: vs, d :: ds, ps, ht, ⟨p, q, h1, h2, e⟩, hs, hp => by
    subst e
    refine ⟨p, q, WideElems.Trod_stays hl (ht t (by simp)).1 (ht t (by simp)).2 h1 (fun x hx => hs x (by simp [hx])) (fun x hx => hp x (by simp [hx])), ?_, rfl⟩
    exact trodAll_stays hl (fun u hu => ht u (by simp [hu])) h2 (fun x hx => hs x (by simp [hx])) (fun x hx => hp x (by simp [hx]))
theorem later_kept {W W' : World} (h : Later W W') (may : MemPlace → Prop) : W.keptBut W' may := by
  refine ⟨h.os, h.output, fun i hi => ?_⟩
  rw [h.block i hi]
  cases hb : W.heap[i]? with
  | none => simp
  | some o =>
    cases o with
    | cells c t fr => simp
    | map es k => simp
    | chan => simp
    | _ => simp
theorem trodAll_ps_len : ∀ {W : World} {b : Nat} {sp : Nat → Bool} {hd : Bool} {ts : List TypeId} {vs : List Value} {ds : List (DataW H)} {ps : List MemPlace}, DataW.TrodAll enc P W b sp hd ts vs ds ps → vs.length = ts.length ∧ ds.length = ts.length
  | _, _, _, _, [], [], [], _, _ => ⟨rfl, rfl⟩
  | W, b, sp, hd, _ :: ts, _ :: vs, _ :: ds, _, ⟨_, _, _, h2, _⟩ => by
    have := trodAll_ps_len h2
    exact ⟨by simp [this.1], by simp [this.2]⟩
/-- The post of a law that returned true and left what was there. -/
theorem post_later {f : Func} {s : ChangeSpec} {apart fresh handsOn again : Bool} {W W' : World} {args : Array Value} {ds gs : List (DataW H)} {before : List MemPlace} {tb : TypeId}
    (hl : laidOutB P = true) (hts : ∀ t ∈ f.params.toList, P.readableRec t = true ∧ t < P.types.size) (hr : f.resultTypes = #[tb]) (htb : P.underlying tb = some .bool)
    (hv : s.vars = []) (hfn : s.fn H ds = { results := [.lit (.bool true)], args := ds })
    (hW : DataW.Whole enc P f.params.toList s.vars apart W args.toList ds gs before) (h : Later W W') :
    s.post enc P f apart fresh handsOn again W args (.bool true) W' := by
  have hlt := hW.lt
  have hW' := hW
  obtain ⟨p, q, hA, hV, rfl, hfz, hnd⟩ := hW
  rw [hv] at hV
  obtain ⟨rfl, rfl⟩ := trodVars_none hV
  have same : ∀ x ∈ p, W.sameAt W' x := fun x hx => Below.same h (hlt x (by simp [hx]))
  have hargs : ∀ sp : Nat → Bool, (∀ x ∈ p, sp x.block = true) → DataW.TrodAll enc P W' 0 sp true f.params.toList args.toList ds p := fun sp hsp => trodAll_stays hl hts hA same hsp
  have hres : ∀ (b : Nat) (sp : Nat → Bool) (hd : Bool), DataW.TrodAll enc P W' b sp hd f.resultTypes.toList ((Value.bool true).resultList f.resultTypes.size) [.lit (.bool true)] [] := by
    intro b sp hd
    rw [hr]
    exact trodAll_cons_mk (shut_bool htb _) trodAll_mk0
  refine ⟨ds, [], p ++ [], [], p, [], hW', ?_, ?_, ?_, later_kept h _, fun _ => ?_⟩
  · rw [List.append_nil, hfn]; exact hres _ _ _
  · rw [List.append_nil, hfn]; exact hargs _ (fun x hx => by simpa using hlt x (by simp [hx]))
  · rw [hv, List.append_nil, hfn]; rfl
  · refine ⟨?_, [.lit (.bool true)] ++ ds, [], p, ⟨p, [], ?_, ?_, by simp, ?_, ?_⟩, ?_⟩
    · intro j t r h1 h2
      rw [hr] at h1 h2
      exact ok_one (f := f) hr rfl (okWide_bool_mk htb _) j t r (by rw [hr]; exact h1) (by rw [hr]; exact h2)
    · have := trodAll_append (hargs (fun _ => true) (fun _ _ => rfl)) (hres 0 (fun _ => true) true)
      simpa using this
    · rw [hv]; rfl
    · intro b off hp
      have := hlt _ (show MemPlace.cell b off ∈ p ++ [] by simpa using hp)
      rw [h.frozen (by exact this)]
      exact hfz b off (by simpa using hp)
    · intro ha; simpa using hnd ha
    · intro x hx _; simpa using hx
end
section
variable {H : Type} {enc : TypeId × Value → H} {P : Program} {w : World} {sp : Nat → Bool} {hd : Bool}
theorem forall_rows {n : Nat} {R : Nat → List Value → Prop} (h : ∀ i, i < n → ∃ r, R i r) : ∃ rows : List (List Value), rows.length = n ∧ ∀ i r, rows[i]? = some r → R i r := by
  induction n with
  | zero => exact ⟨[], rfl, fun i r hr => by simp at hr⟩
  | succ n ih =>
    obtain ⟨rows, hl, hr⟩ := ih fun i hi => h i (by omega)
    obtain ⟨r, hr'⟩ := h n (by omega)
    refine ⟨rows ++ [r], by simp [hl], fun i x hx => ?_⟩
    by_cases hi : i < n
    · rw [List.getElem?_append_left (by omega)] at hx
      exact hr i x hx
    · rw [List.getElem?_append_right (by omega)] at hx
      have : i = n := by
        by_cases h2 : i - rows.length = 0
        · omega
        · rw [List.getElem?_eq_none (by simp; omega)] at hx; cases hx
      subst this
      simp [hl] at hx
      exact hx ▸ hr'
theorem flatten_at {s : Nat} : ∀ (rows : List (List Value)), (∀ r ∈ rows, r.length = s) → ∀ (i : Nat) (x : Value), rows.flatten[i]? = some x → ∃ k j r, i = k * s + j ∧ j < s ∧ rows[k]? = some r ∧ r[j]? = some x
  | [], _, i, x, h => by simp at h
  | r :: rows, hl, i, x, h => by
    rw [List.flatten_cons] at h
    have hr := hl r (by simp)
    by_cases hi : i < r.length
    · rw [List.getElem?_append_left hi] at h
      exact ⟨0, i, r, by simp, by omega, rfl, h⟩
    · rw [List.getElem?_append_right (by omega)] at h
      obtain ⟨k, j, r', e, hj, hk, hx⟩ := flatten_at rows (fun r' h' => hl r' (by simp [h'])) (i - r.length) x h
      exact ⟨k + 1, j, r', by rw [Nat.add_mul]; omega, hj, by simpa using hk, hx⟩
end
theorem list_all {P : Program} {ts : List TypeId} (h : (ts.all fun t => P.readableRec t && decide (t < P.types.size)) = true) : ∀ t ∈ ts, P.readableRec t = true ∧ t < P.types.size := by
  intro t ht
  have := List.all_eq_true.1 h t ht
  simpa using this
theorem i64_of_wf {n : Int} (h : (Lit.int .i64 n).wf = true) : -9223372036854775808 ≤ n ∧ n ≤ 9223372036854775807 := by
  simp only [Lit.wf, Bool.and_eq_true, decide_eq_true_eq] at h
  exact h
end Go.Vc
end
section
namespace Go.Vc
open Go.RowKit
theorem flatten_get {s : Nat} : ∀ (rows : List (List Value)), (∀ r ∈ rows, r.length = s) → ∀ (k j : Nat) (r : List Value) (x : Value), rows[k]? = some r → r[j]? = some x → rows.flatten[k * s + j]? = some x
  | [], _, k, j, r, x, h, _ => by simp at h
  | q :: rows, hl, 0, j, r, x, h, hx => by
    simp only [List.getElem?_cons_zero, Option.some.injEq] at h
    subst h
    have : j < q.length := (List.getElem?_eq_some_iff.1 hx).1
    rw [List.flatten_cons, Nat.zero_mul, Nat.zero_add, List.getElem?_append_left this]; exact hx
  | q :: rows, hl, k + 1, j, r, x, h, hx => by
    have hq := hl q (by simp)
    have ih := flatten_get rows (fun r' h' => hl r' (by simp [h'])) k j r x (by simpa using h) hx
    rw [List.flatten_cons, Nat.add_mul, List.getElem?_append_right (by omega)]
    rw [← ih]; congr 1; omega
theorem SlN.row {w : World} {s n n' c : Nat} {a : Addr} {rows : List (List Value)} (h : SlN w s (.slice (some a) n c) n' rows.flatten) (hl : ∀ r ∈ rows, r.length = s) {k : Nat} {r : List Value} (hr : rows[k]? = some r) : cellsAt w (a.add (k * s)) s = some r := by
  refine cellsAt_of s _ r (hl r (List.mem_of_getElem? hr)) fun j x hx => ?_
  rw [addr_add_add]
  exact h.at (flatten_get rows hl k j r x hr hx)
/-- One cell of a row. -/
theorem SlN.rowCell {w : World} {s n n' c : Nat} {a : Addr} {rows : List (List Value)} (h : SlN w s (.slice (some a) n c) n' rows.flatten) (hl : ∀ r ∈ rows, r.length = s) {k j : Nat} {r : List Value} {x : Value} (hr : rows[k]? = some r) (hx : r[j]? = some x) : w.cell? ((a.add (k * s)).add j) = some x := by
  rw [addr_add_add]
  exact h.at (flatten_get rows hl k j r x hr hx)
theorem storeAll_new (w : World) (e : TypeId) : ∀ (xs : List Value) (done rest : List Value), rest.length = xs.length →
    storeAll (w.alloc (.cells (done ++ rest).toArray e)) ⟨w.heap.size, done.length, none⟩ xs = w.alloc (.cells (done ++ xs).toArray e)
  | [], done, rest, h => by
    have : rest = [] := List.eq_nil_of_length_eq_zero (by simpa using h)
    subst this; rfl
  | x :: xs, done, [], h => by simp at h
  | x :: xs, done, r :: rest, h => by
    have ih := storeAll_new w e xs (done ++ [x]) rest (by simpa using h)
    simp only [storeAll]
    have e1 : (w.alloc (.cells (done ++ r :: rest).toArray e)).setCell ⟨w.heap.size, done.length, none⟩ x = w.alloc (.cells (done ++ [x] ++ rest).toArray e) := by
      have hm : ∀ (o o' : Obj) (f : Obj → Obj), f o = o' → (w.heap.push o).modify w.heap.size f = w.heap.push o' := by
        intro o o' f hf
        apply Array.ext_getElem?
        intro i
        rw [Array.getElem?_modify, Array.getElem?_push, Array.getElem?_push]
        by_cases hi : i = w.heap.size
        · subst hi; simp [hf]
        · rw [if_neg (by omega), if_neg hi, if_neg hi]
      show ({ w with heap := (w.heap.push (.cells (done ++ r :: rest).toArray e)).modify w.heap.size _ } : World) = { w with heap := w.heap.push (.cells (done ++ [x] ++ rest).toArray e) }
      rw [hm _ (.cells (done ++ [x] ++ rest).toArray e) _ (by simp)]
    rw [e1, addr_add_eq]
    have e2 : (done ++ [x]).length = done.length + 1 := by simp
    rw [← e2, ih]
    simp
theorem canAll_new (w : World) (e : TypeId) (cs : Array Value) : ∀ (xs : List Value) (i : Nat), i + xs.length ≤ cs.size → canAll (w.alloc (.cells cs e)) ⟨w.heap.size, i, none⟩ xs
  | [], _, _ => trivial
  | x :: xs, i, h => by
    simp only [List.length_cons] at h
    refine ⟨?_, (Blk.new w cs e).frozen i, ?_⟩
    · rw [(Blk.new w cs e).cell i]
      exact ⟨_, Array.getElem?_eq_getElem (by omega)⟩
    · rw [addr_add_eq]; exact canAll_new w e cs xs (i + 1) (by omega)
/-- A struct laid anew, and filled. -/
theorem vStore_new {P : Program} {w : World} {K : Value → World → Prop} {t e : TypeId} {z cs : Array Value} {s : Nat} (hs : cs.size = s) (hz : z.size = s) (h1 : ∀ u ∈ cs.toList, u.oneCell' = true) (hk : K undef (w.alloc (.cells cs e))) :
    vStoreD P t (some s) (.pointer (some ⟨w.heap.size, 0, none⟩)) (.agg cs) K (w.alloc (.cells z e)) := by
  refine ⟨hs, h1, canAll_new w e z cs.toList 0 (by simp; omega), ?_⟩
  have := storeAll_new w e cs.toList [] z.toList (by simp; omega)
  simp only [List.nil_append, List.length_nil] at this
  show K undef (storeAll (w.alloc (.cells z e)) ⟨w.heap.size, 0, none⟩ cs.toList)
  have e1 : z.toList.toArray = z := by simp
  have e2 : cs.toList.toArray = cs := by simp
  rw [e1, e2] at this
  rw [this]; exact hk
section
variable {P : Program} {w : World} {Ns : NS} {rs : List Nat} {σ : Env} {ty : TypeId} {Kv : Value → Prop} {Kn : (Value → World → Prop) → Prop}
theorem nR_callv {g : FuncId} {args : Array Operand} {ts : Array TypeId} (hb : HasBody P g) (v : Value) (h : ∀ σ' w', Later w w' → psis Ns σ w' σ' rs → FnC P g (args.map (ev σ')) w' fun u w'' => u = v ∧ Later w' w'') (hk : Kv v) :
    nR P (.call ⟨.value (.func g), args, ts⟩) ty rs Ns σ w Kv Kn := by
  refine .inl ⟨v, fun σ' w' hl hp => ?_, hk⟩
  rw [exe_call (f := .func g) (g := g) (first := #[]) (captured := #[]) rfl rfl]
  have h1 := h σ' w' hl hp
  simp only [Array.empty_append, Array.append_empty]
  rw [hb]
  refine ⟨rfl, Calls.mono (hb.ret h1) ?_⟩
  rintro e w'' ⟨u, rfl, hu, hl'⟩
  exact ⟨u, rfl, hl', hu⟩
end
end Go.Vc
end
section
namespace Go.Vc
open Go.RowKit
theorem chg_putObj (w : World) {L : Nat} {ks : List Nat} (h : L ∈ ks) (o : Obj) : Chg w (w.putObj L o) ks :=
  ⟨rfl, rfl, rfl, by simp [World.putObj], fun k _ hn => World.putObj_heap_other fun e => hn (e ▸ h)⟩
theorem later_two (w : World) (o o' : Obj) : Later w ((w.alloc o).alloc o') := (later_alloc w o).alloc o'
theorem heap_later {w w' : World} {k : Nat} {o : Obj} (h : w.heap[k]? = some o) (hl : Later w w') : w'.heap[k]? = some o := by
  rw [hl.block k (Array.getElem?_eq_some_iff.1 h).1]; exact h
theorem heap_chg {w w' : World} {k : Nat} {o : Obj} {ks : List Nat} (h : w.heap[k]? = some o) (g : Chg w w' ks) (hk : k ∉ ks) : w'.heap[k]? = some o := by
  rw [g.block k (Array.getElem?_eq_some_iff.1 h).1 hk]; exact h
end Go.Vc
end
section
namespace Go.Vc
open Go.RowKit
theorem vAppend_at {P : Program} {w : World} {K : Value → World → Prop} {t e ty : TypeId} {z : Value} {s b : Nat} (ht : P.underlying t = some (.slice e)) (hi : (P.info? e).map (fun i => (i.zero, i.size, i.bytes)) = some (some z, s, b)) (hzs : z.cells.size = s) (hsz : 0 < s)
    {base : Nat} {v x : Value} {n m : Nat} {xs news : List Value} (hown : w.ownsRow base e s v n xs) (hx : SlN w s x m news) (h1 : ∀ u ∈ news, u.oneCell' = true) (h63 : n + m ≤ maxLen) (hb : (n + m) * b ≤ 140737488355328) (hbase : base ≤ w.heap.size)
    (hK : ∀ v' w', w'.ownsRow base e s v' (n + m) (xs ++ news) → w.grownBy w' v.ownBlock → (v'.ownBlock = v.ownBlock ∨ v'.ownBlock = some w.heap.size) → K v' w') : vAppend P #[t, t] ty #[v, x] K w := by
  obtain ⟨i, hi1, hz, hsi, hbi⟩ := info_parts hi
  unfold vAppend
  obtain ⟨hl, hr⟩ := hx
  rcases hr with ⟨rfl, rfl⟩ | ⟨ad, c, rfl, hc1, hc2, hc3⟩
  · have hnews : news = [] := List.eq_nil_of_length_eq_zero (by simpa using hl)
    subst hnews
    have hsl := SlN.of_own hown
    obtain ⟨o, c, rfl, h1, h2, h3, h4, _⟩ := hsl.open
    rw [run_val_pure (run_append_nil_src ht hi o n c h1 (fun ho => (h4 ho).1))]
    exact hK _ _ (by simpa using hown) ⟨rfl, rfl, rfl, Nat.le_refl _, fun _ _ _ => rfl⟩ (.inl rfl)
  · obtain ⟨v', w', hr, h2, h3, h4, h5⟩ := run_append_own_at (P := P) w base t ty e i z s b ht hi1 hz hsi hbi hzs hsz v n xs hown ad m c news hl hc3 h1 h63 hb hbase
    rw [run_val_pure hr]
    exact hK _ _ h2 h3 h5
/-- A block of another type stays. -/
theorem grown_ne {w w' : World} {base s n k : Nat} {e e' : TypeId} {v : Value} {xs : List Value} {cs : Array Value} (hv : w.ownsRow base e s v n xs) (g : w.grownBy w' v.ownBlock) (h : Blk w k cs e') (hne : e' ≠ e) : Blk w' k cs e' := by
  unfold Blk at *
  rw [g.block k (Blk.lt h) fun he => ?_]; exact h
  obtain ⟨_, hr⟩ := hv
  rcases hr with ⟨rfl, _⟩ | ⟨b, cap, cur, rfl, _, hh, _⟩
  · simp [Value.ownBlock] at he
  · simp only [Value.ownBlock, Option.some.injEq] at he
    subst he
    rw [hh] at h
    simp only [Option.some.injEq, Obj.cells.injEq] at h
    exact hne h.2.1.symm
end Go.Vc
end
section
namespace Go.Vc
open Go.RowKit
/-- A row of one type stays where a block of another is written. -/
theorem own_chg_ty {w w' : World} {base s n k : Nat} {e e' : TypeId} {cs : Array Value} {v : Value} {xs : List Value} (h : w.ownsRow base e s v n xs) (hb : Blk w k cs e') (hne : e ≠ e') (g : Chg w w' [k]) : w'.ownsRow base e s v n xs := by
  obtain ⟨h0, h⟩ := h
  refine ⟨h0, ?_⟩
  rcases h with h | ⟨b, cap, cur, hv, hbb, hh, h3⟩
  · exact .inl h
  · refine .inr ⟨b, cap, cur, hv, hbb, ?_, h3⟩
    rw [g.block b (Blk.lt hh) ?_]
    · exact hh
    · intro hm
      simp only [List.mem_singleton] at hm
      subst hm
      unfold Blk at hb
      rw [hh] at hb
      simp only [Option.some.injEq, Obj.cells.injEq] at hb
      exact hne hb.2.1
theorem own_obj {w w' : World} {base s n k : Nat} {e : TypeId} {o : Obj} {v : Value} {xs : List Value} (h : w.ownsRow base e s v n xs) (hb : w.heap[k]? = some o) (ho : o.isCells = false) (g : Chg w w' [k]) : w'.ownsRow base e s v n xs := by
  obtain ⟨h0, h⟩ := h
  refine ⟨h0, ?_⟩
  rcases h with h | ⟨b, cap, cur, hv, hbb, hh, h3⟩
  · exact .inl h
  · refine .inr ⟨b, cap, cur, hv, hbb, ?_, h3⟩
    rw [g.block b (Blk.lt hh) ?_]
    · exact hh
    · intro hm
      simp only [List.mem_singleton] at hm
      subst hm
      rw [hh] at hb
      simp only [Option.some.injEq] at hb
      subst hb
      simp [Obj.isCells] at ho
theorem own_ne {w : World} {base s n k : Nat} {e : TypeId} {o : Obj} {v : Value} {xs : List Value} (h : w.ownsRow base e s v n xs) (hk : w.heap[k]? = some o) (ho : ∀ cs, o ≠ .cells cs e (0, 0)) : v.ownBlock ≠ some k := by
  obtain ⟨h0, h⟩ := h
  rcases h with ⟨rfl, _⟩ | ⟨b, cap, cur, rfl, _, hh, _⟩
  · simp [Value.ownBlock]
  · simp only [Value.ownBlock]
    intro he
    simp only [Option.some.injEq] at he
    subst he
    rw [hh] at hk
    simp only [Option.some.injEq] at hk
    exact ho cur hk.symm
theorem not_cells {o : Obj} (h : o.isCells = false) (e : TypeId) : ∀ cs, o ≠ .cells cs e (0, 0) := by
  intro cs e'
  subst e'
  simp [Obj.isCells] at h
theorem grown_obj {w w' : World} {base s n k : Nat} {e : TypeId} {o : Obj} {v : Value} {xs : List Value} (h : w.ownsRow base e s v n xs) (g : w.grownBy w' v.ownBlock) (hk : w.heap[k]? = some o) (ho : ∀ cs, o ≠ .cells cs e (0, 0)) : w'.heap[k]? = some o := by
  rw [g.block k (Array.getElem?_eq_some_iff.1 hk).1 (fun e => own_ne h hk ho e.symm)]; exact hk
theorem own_ge {w : World} {base s n : Nat} {e : TypeId} {v : Value} {xs : List Value} (h : w.ownsRow base e s v n xs) : ∀ k ∈ v.ownBlock.toList, base ≤ k := by
  intro k hk
  have hk : v.ownBlock = some k := by simpa using hk
  obtain ⟨_, h⟩ := h
  rcases h with ⟨rfl, _⟩ | ⟨b, cap, cur, rfl, hb, _⟩
  · simp [Value.ownBlock] at hk
  · simp only [Value.ownBlock, Option.some.injEq] at hk; omega
end Go.Vc
end
section
namespace Go.Stab
variable {α : Type} {lt : α → α → Bool}
def eqv (lt : α → α → Bool) (a b : α) : Bool := !lt a b && !lt b a
/-- The same, each class in its order. -/
def Stb (lt : α → α → Bool) (l l' : List α) : Prop := l'.length = l.length ∧ ∀ x, l'.filter (eqv lt x) = l.filter (eqv lt x)
/-- Where the merge begins its search, and where it ends. -/
def s0 (a m b : Nat) : Nat := if (a + b) / 2 < m then (a + b) / 2 + m - b else a
def r0 (a m b : Nat) : Nat := if (a + b) / 2 < m then (a + b) / 2 else m
end Go.Stab
end
section
namespace Go.Vc
open Go.RowKit
end Go.Vc
end
section
namespace Go.Vc
open Go.RowKit
/-- One cell of what a call owns, written. -/
theorem own_setN {w : World} {base n s : Nat} {e : TypeId} {a : Addr} {c m i : Nat} {xs : List Value} (h : w.ownsRow base e s (.slice (some a) m c) n xs) (hi : i < n * s) (v : Value) :
    ∃ k, a = ⟨k, 0, none⟩ ∧ base ≤ k ∧ k < w.heap.size ∧ (w.setCell ⟨k, i, none⟩ v).ownsRow base e s (.slice (some ⟨k, 0, none⟩) m c) n (xs.set i v) ∧ (∃ y, w.cell? ⟨k, i, none⟩ = some y) ∧ w.frozen? ⟨k, i, none⟩ = false ∧ Blk w k (match w.heap[k]? with | some (.cells cs _ _) => cs | _ => #[]) e := by
  obtain ⟨h0, h⟩ := h
  rcases h with ⟨h, _⟩ | ⟨g, cap, cur, hv, hb, hh, h1, h2, h3, h4⟩
  · cases h
  · simp only [Value.slice.injEq, Option.some.injEq] at hv
    obtain ⟨rfl, rfl, rfl⟩ := hv
    have hB : Blk w g cur e := hh
    have hsz : cur.size = c * s := by simpa using h3
    have hms : m * s ≤ c * s := Nat.mul_le_mul_right _ h1
    refine ⟨g, rfl, hb, hB.lt, ⟨by simpa using h0, .inr ⟨g, c, cur.setIfInBounds i v, rfl, hb, hB.set i v, h1, h2, by simpa using h3, ?_⟩⟩, ?_, hB.frozen i, ?_⟩
    · rw [← h4]; simp [List.take_set]
    · rw [hB.cell]; exact ⟨cur[i], Array.getElem?_eq_getElem (by omega)⟩
    · rw [hh]; exact hh
/-- The first k. -/
theorem SlN.preN {w : World} {s n c : Nat} {o : Option Addr} {xs : List Value} (h : SlN w s (.slice o n c) n xs) {k : Nat} (hk : k ≤ n) : SlN w s (.slice o k c) k (xs.take (k * s)) := by
  obtain ⟨_, hc, hm, hl, _⟩ := h.len
  have hs := h.part (l := 0) (k := (k : Int)) (m := (c : Int)) (by omega) (by omega) (by omega) (by omega) (by omega)
  simp only [Int.sub_zero, Int.toNat_zero, Nat.zero_mul, List.drop_zero, Int.toNat_natCast] at hs
  unfold slAddr at hs
  split at hs
  · exact hs
  · cases o with
    | none => exact hs
    | some a => simpa [addr_add_zero] using hs
end Go.Vc
end
section
namespace Go.Vc
open Go.RowKit
section
variable {α : Type} {enc : α → List Value} {k : Nat}
/-- Records, read. -/
def RecS (enc : α → List Value) (k : Nat) (w : World) (v : Value) (l : List α) : Prop := SlN w k v l.length (l.map enc).flatten
/-- Records of one's own. -/
def OwnR (enc : α → List Value) (k : Nat) (w : World) (B : Nat) (e : TypeId) (v : Value) (l : List α) : Prop := w.ownsRow B e k v l.length (l.map enc).flatten
theorem rec_len (hk : ∀ x, (enc x).length = k) (l : List α) : ∀ r ∈ l.map enc, r.length = k := by
  intro r hr
  obtain ⟨p, _, rfl⟩ := List.mem_map.1 hr
  exact hk p
theorem rec_flat (hk : ∀ x, (enc x).length = k) (l : List α) : (l.map enc).flatten.length = l.length * k := by
  induction l with
  | nil => simp
  | cons p l ih => simp only [List.map_cons, List.flatten_cons, List.length_append, ih, List.length_cons, hk, Nat.add_mul]; omega
theorem RecS.later {w w' : World} {v : Value} {l : List α} (h : RecS enc k w v l) (hl : Later w w') : RecS enc k w' v l := SlN.later h hl
theorem OwnR.s {w : World} {B : Nat} {e : TypeId} {v : Value} {l : List α} (h : OwnR enc k w B e v l) : RecS enc k w v l := SlN.of_own h
theorem OwnR.later {w w' : World} {B : Nat} {e : TypeId} {v : Value} {l : List α} (h : OwnR enc k w B e v l) (hl : Later w w') : OwnR enc k w' B e v l := own_later h hl
theorem OwnR.nil (w : World) (B : Nat) (e : TypeId) : OwnR enc k w B e (.slice none 0 0) [] := own_nil w B e k
theorem OwnR.alloc {w : World} {B : Nat} {e : TypeId} {v : Value} {l : List α} (h : OwnR enc k w B e v l) (o : Obj) : OwnR enc k (w.alloc o) B e v l := own_alloc h o
theorem OwnR.lit0 (w : World) (e : TypeId) {B : Nat} (hB : B ≤ w.heap.size) : OwnR enc k (w.alloc (.cells #[] e)) B e (.slice (some ⟨w.heap.size, 0, none⟩) 0 0) [] := own_lit w [] e k 0 (by simp) (by unfold maxLen; omega) hB
theorem RecS.slice {w : World} {v : Value} {l : List α} (h : RecS enc k w v l) : ∃ o c, v = .slice o l.length c ∧ l.length ≤ c ∧ c ≤ 9223372036854775807 := by
  obtain ⟨o, c, hv, h1, h2, _⟩ := SlN.open h
  exact ⟨o, c, hv, h1, by simpa [maxLen] using h2⟩
theorem RecS.nil (w : World) : RecS enc k w (.slice none 0 0) [] := SlN.of_own (own_nil w 0 0 k)
theorem RecS.at (hk : ∀ x, (enc x).length = k) {w : World} {o : Option Addr} {n c : Nat} {l : List α} (h : RecS enc k w (.slice o n c) l) {i : Nat} (hi : i < l.length) : ∃ a, o = some a ∧ cellsAt w (a.add (i * k)) k = some (enc l[i]) := by
  cases o with
  | none => have h1 := SlN.len h; have := h1.2.2.2.2 rfl; have := h1.1; omega
  | some a =>
    have hr : (l.map enc)[i]? = some (enc l[i]) := by simp [hi]
    exact ⟨a, rfl, SlN.row h (rec_len hk l) hr⟩
theorem RecS.cell (hk : ∀ x, (enc x).length = k) {w : World} {a : Addr} {n c : Nat} {l : List α} (h : RecS enc k w (.slice (some a) n c) l) {i j : Nat} (hi : i < l.length) {x : Value} (hx : (enc l[i])[j]? = some x) : w.cell? ((a.add (i * k)).add j) = some x :=
  SlN.rowCell h (rec_len hk l) (by simp [hi]) hx
/-- Records behind records of the call's own. -/
theorem vAppend_rs (hk : ∀ x, (enc x).length = k) (h1 : ∀ x, ∀ u ∈ enc x, u.oneCell' = true) {P : Program} {w : World} {K : Value → World → Prop} {t e ty : TypeId} {z : Value} {b : Nat} (ht : P.underlying t = some (.slice e)) (hi : (P.info? e).map (fun i => (i.zero, i.size, i.bytes)) = some (some z, k, b)) (hzs : z.cells.size = k) (hk0 : 0 < k)
    {B : Nat} {v x : Value} {l r : List α} (hown : OwnR enc k w B e v l) (hx : RecS enc k w x r) (h63 : l.length + r.length ≤ 1000000000) (hb : b ≤ 1000) (hbase : B ≤ w.heap.size)
    (hK : ∀ v' w', OwnR enc k w' B e v' (l ++ r) → w.grownBy w' v.ownBlock → (v'.ownBlock = v.ownBlock ∨ v'.ownBlock = some w.heap.size) → K v' w') : vAppend P #[t, t] ty #[v, x] K w := by
  refine vAppend_at ht hi hzs hk0 hown hx ?_ (by unfold maxLen; omega) ?_ hbase ?_
  · intro u hu
    obtain ⟨ys, hy, hu⟩ := List.mem_flatten.1 hu
    obtain ⟨p, _, rfl⟩ := List.mem_map.1 hy
    exact h1 p u hu
  · have : (l.length + r.length) * b ≤ 1000000000 * 1000 := Nat.mul_le_mul h63 hb
    omega
  · intro v' w' ho hg hs
    refine hK v' w' ?_ hg hs
    unfold OwnR
    simpa using ho
/-- A literal's row of one record. -/
theorem RecS.lit1 {w : World} {b : Nat} {e : TypeId} {y : α} (hk : (enc y).length = k) (h : Blk w b (enc y).toArray e) : RecS enc k w (.slice (some ⟨b, 0, none⟩) 1 1) [y] := by
  refine SlN.mk (by simp [hk]) (Nat.le_refl _) (by unfold maxLen; omega) (fun h => by cases h) ?_
  intro a ha i x hx
  simp only [Option.some.injEq] at ha
  subst ha
  rw [addr_add_eq, Nat.zero_add, h.cell]
  simpa using hx
/-- Cells of what a call owns, written one after the other. -/
def wrs (xs : List Value) (p : Nat) : List Value → List Value
  | [] => xs
  | v :: vs => wrs (xs.set p v) (p + 1) vs
theorem writes_app (A old B new : List Value) (h : old.length = new.length) : wrs (A ++ old ++ B) A.length new = A ++ new ++ B := by
  induction new generalizing A old with
  | nil => obtain rfl := List.length_eq_zero_iff.1 h; rfl
  | cons v vs ih =>
    cases old with
    | nil => cases h
    | cons o os =>
      have e : (A ++ o :: os ++ B).set A.length v = (A ++ [v]) ++ os ++ B := by simp
      have hl : A.length + 1 = (A ++ [v]).length := by simp
      rw [wrs, e, hl, ih (A ++ [v]) os (by simpa using h)]
      simp
theorem own_writes {w : World} {base n s : Nat} {e : TypeId} {a : Addr} {c m : Nat} {xs : List Value} (h : w.ownsRow base e s (.slice (some a) m c) n xs) : ∃ g, a = ⟨g, 0, none⟩ ∧ base ≤ g ∧ g < w.heap.size ∧ (∃ cs, Blk w g cs e) ∧ ∀ (vs : List Value) (p : Nat), p + vs.length ≤ n * s → canAll w ⟨g, p, none⟩ vs := by
  obtain ⟨h0, h⟩ := h
  rcases h with ⟨h, _⟩ | ⟨g, cap, cur, hv, hb, hh, h1, h2, h3, h4⟩
  · cases h
  · simp only [Value.slice.injEq, Option.some.injEq] at hv
    obtain ⟨rfl, rfl, rfl⟩ := hv
    have hB : Blk w g cur e := hh
    have hsz : cur.size = c * s := by simpa using h3
    have hms : m * s ≤ c * s := Nat.mul_le_mul_right _ h1
    refine ⟨g, rfl, hb, hB.lt, ⟨cur, hB⟩, fun vs => ?_⟩
    induction vs with
    | nil => intro p _; trivial
    | cons v vs ih =>
      intro p hp
      simp only [List.length_cons] at hp
      refine ⟨⟨cur[p], by rw [hB.cell]; exact Array.getElem?_eq_getElem (by omega)⟩, hB.frozen p, ?_⟩
      rw [addr_add_eq]
      exact ih (p + 1) (by omega)
theorem own_storeAll {base n s : Nat} {e : TypeId} {g c m : Nat} : ∀ (vs : List Value) (w : World) (p : Nat) (xs : List Value), w.ownsRow base e s (.slice (some ⟨g, 0, none⟩) m c) n xs → p + vs.length ≤ n * s →
    (storeAll w ⟨g, p, none⟩ vs).ownsRow base e s (.slice (some ⟨g, 0, none⟩) m c) n (wrs xs p vs) ∧ Chg w (storeAll w ⟨g, p, none⟩ vs) [g] := by
  intro vs
  induction vs with
  | nil => intro w p xs h _; exact ⟨h, Chg.refl _ _⟩
  | cons v vs ih =>
    intro w p xs h hp
    simp only [List.length_cons] at hp
    obtain ⟨k', e', _, _, h3, _, _, _⟩ := own_setN (i := p) h (by omega) v
    have eg : k' = g := by have := congrArg Addr.block e'; simpa using this.symm
    subst eg
    have := ih (w.setCell ⟨k', p, none⟩ v) (p + 1) (xs.set p v) h3 (by omega)
    unfold storeAll
    rw [addr_add_eq]
    exact ⟨this.1, (chg_setCell w (by simp) v).trans this.2⟩
theorem set_split (l : List α) {i : Nat} (hi : i < l.length) (y : α) : l = l.take i ++ l[i] :: l.drop (i + 1) ∧ l.set i y = l.take i ++ y :: l.drop (i + 1) := by
  refine ⟨?_, ?_⟩
  · rw [List.getElem_cons_drop, List.take_append_drop]
  · rw [List.set_eq_take_append_cons_drop, if_pos hi]
theorem writes_rec (hk : ∀ x, (enc x).length = k) (l : List α) {i : Nat} (hi : i < l.length) (y : α) : wrs (l.map enc).flatten (i * k) (enc y) = ((l.set i y).map enc).flatten := by
  obtain ⟨e1, e2⟩ := set_split l hi y
  have hA : ((l.take i).map enc).flatten.length = i * k := by rw [rec_flat hk, List.length_take]; congr 1; omega
  have e3 : (l.map enc).flatten = ((l.take i).map enc).flatten ++ enc l[i] ++ ((l.drop (i + 1)).map enc).flatten := by
    have : (l.map enc).flatten = ((l.take i ++ l[i] :: l.drop (i + 1)).map enc).flatten := congrArg (fun l => (l.map enc).flatten) e1
    rw [this, List.map_append, List.flatten_append, List.map_cons, List.flatten_cons, List.append_assoc]
  rw [e3, ← hA, writes_app _ _ _ _ (by rw [hk, hk]), e2]
  simp
/-- One record written anew. -/
theorem OwnR.set (hk : ∀ x, (enc x).length = k) {w : World} {B : Nat} {e : TypeId} {a : Addr} {n c : Nat} {l : List α} (h : OwnR enc k w B e (.slice (some a) n c) l) {i : Nat} (hi : i < l.length) (y : α) :
    ∃ g, a = ⟨g, 0, none⟩ ∧ B ≤ g ∧ (∃ cs, Blk w g cs e) ∧ canAll w (a.add (i * k)) (enc y) ∧ OwnR enc k (storeAll w (a.add (i * k)) (enc y)) B e (.slice (some a) n c) (l.set i y) ∧ Chg w (storeAll w (a.add (i * k)) (enc y)) [g] := by
  obtain ⟨g, rfl, h1, h2, hb, h3⟩ := own_writes h
  have hle : i * k + k ≤ l.length * k := by
    have : (i + 1) * k ≤ l.length * k := Nat.mul_le_mul_right _ hi
    rw [Nat.add_mul] at this; omega
  obtain ⟨o1, o2⟩ := own_storeAll (enc y) w (i * k) _ h (by rw [hk]; exact hle)
  refine ⟨g, rfl, h1, hb, ?_, ?_, ?_⟩
  · rw [addr_add_eq, Nat.zero_add]
    exact h3 (enc y) (i * k) (by rw [hk]; exact hle)
  · rw [addr_add_eq, Nat.zero_add]
    unfold OwnR
    rw [writes_rec hk l hi y] at o1
    simpa using o1
  · rw [addr_add_eq, Nat.zero_add]
    exact o2
end
end Go.Vc
end
section
namespace Go.Vc
open Go.RowKit Go.ChangeShapes
section
variable {H : Type} {enc : TypeId × Value → H} {P : Program} {w : World} {sp : Nat → Bool} {hd : Bool}
/-- Whatever of a type came in reads as R says. -/
structure Opens (enc : TypeId × Value → H) (P : Program) (w : World) (sp : Nat → Bool) (hd : Bool) (e : TypeId) (s : Nat) (R : List Value → Prop) : Prop where
  size : P.cellsOf e = s
  reads : ∀ m cs y, DataW.trod enc P w 0 sp hd m e cs = some y → R cs
theorem rows_list {α : Type} {en : α → List Value} {Q : α → Prop} : ∀ (rows : List (List Value)), (∀ r ∈ rows, ∃ x, r = en x ∧ Q x) → ∃ l : List α, rows = l.map en ∧ ∀ x ∈ l, Q x
  | [], _ => ⟨[], rfl, by simp⟩
  | r :: rows, h => by
    obtain ⟨l, hl, hq⟩ := rows_list rows fun r' h' => h r' (by simp [h'])
    obtain ⟨x, hx, hqx⟩ := h r (by simp)
    refine ⟨x :: l, by simp [hl, hx], fun y hy => ?_⟩
    rcases List.mem_cons.1 hy with rfl | hy
    · exact hqx
    · exact hq y hy
theorem flat_one {α : Type} (f : α → Value) : ∀ l : List α, (l.map fun x => [f x]).flatten = l.map f
  | [] => rfl
  | x :: l => by simp [flat_one f l]
/-- Elements of one cell. -/
theorem sl_of_rec {α : Type} {f : α → Value} {w : World} {v : Value} {l : List α} (h : RecS (fun x => [f x]) 1 w v l) : Sl w v (l.map f) := by
  unfold RecS at h
  rw [flat_one] at h
  unfold Sl
  rw [List.length_map]
  exact h
end
end Go.Vc
end
section
namespace Go.Vc
open Go.RowKit Go.ChangeShapes
section
variable {H : Type} {enc : TypeId × Value → H} {P : Program} {w : World} {sp : Nat → Bool} {hd : Bool}
/-- No text and no slice in it has more bytes than a process can have. -/
def Sz (P : Program) (t : TypeId) (d : DataW H) : Prop := ∀ n ∈ d.weights P t, n ≤ reachBytes
theorem mem_weightsAll {e : TypeId} {d : DataW H} {n : Nat} (hn : n ∈ d.weights P e) : ∀ {l : List (DataW H)}, d ∈ l → n ∈ DataW.weightsAll P e l
  | [], h => by cases h
  | x :: l, h => by
    simp only [DataW.weightsAll, List.mem_append]
    rcases List.mem_cons.1 h with rfl | h
    · exact .inl hn
    · exact .inr (mem_weightsAll hn h)
/-- As Opens, for what is less deep than M and not too great. -/
def OZ (M : Nat) (enc : TypeId × Value → H) (P : Program) (w : World) (sp : Nat → Bool) (hd : Bool) (e : TypeId) (R : List Value → Prop) : Prop :=
  ∀ m, m < M → ∀ cs y, DataW.trod enc P w 0 sp hd m e cs = some y → Sz P e y.1 → R cs
variable {M : Nat}
theorem OZ.mono {e : TypeId} {R R' : List Value → Prop} (h : OZ M enc P w sp hd e R) (hr : ∀ cs, R cs → R' cs) : OZ M enc P w sp hd e R' := fun m hm cs y hy hz => hr _ (h m hm cs y hy hz)
theorem oz_i64 {e : TypeId} (he : P.underlying e = some (.int .i64)) : OZ M enc P w sp hd e (fun cs => ∃ n : Int, cs = [.int .i64 n] ∧ -9223372036854775808 ≤ n ∧ n ≤ 9223372036854775807) := fun m _ cs y hy _ => by
  obtain ⟨n, rfl, _, hw⟩ := DataW.trod_int he hy
  exact ⟨n, rfl, i64_of_wf hw⟩
theorem oz_string {e : TypeId} (he : P.underlying e = some .string) : OZ M enc P w sp hd e (fun cs => ∃ s : ByteArray, cs = [.string s] ∧ s.size ≤ 140737488351232) := fun m _ cs y hy hz => by
  obtain ⟨n, rfl, h2, _⟩ := DataW.trod_string he hy
  refine ⟨n, rfl, ?_⟩
  rw [h2] at hz
  have := hz n.data.toList.length (by simp [DataW.weights])
  exact this
theorem oz_slice {α : Type} {en : α → List Value} {Q : α → Prop} {t e : TypeId} {s : Nat} (ht : P.underlying t = some (.slice e)) (hc : P.cellsOf e = s) (he : OZ M enc P w sp hd e (fun cs => ∃ x, cs = en x ∧ Q x)) :
    OZ M enc P w sp hd t (fun cs => ∃ v l, cs = [v] ∧ RecS en s w v l ∧ (∀ x ∈ l, Q x) ∧ l.length * P.bytesOf e ≤ 140737488351232) := fun m hm cs y hy hz => by
  rcases DataW.trod_slice ht hy with ⟨h0, _⟩ | ⟨a, len, cap, elems, rest, n, hmn, hv, hyx, _, hl, hmx, hlen, hel, _⟩
  · subst h0
    exact ⟨_, [], rfl, RecS.nil w, by simp, by simp⟩
  · subst hv
    rw [hc] at hel
    rw [hyx] at hz
    have hzz : ∀ n ∈ ((elems.map (·.1)).length + (rest.map (·.1)).length) * P.bytesOf e :: (DataW.weightsAll P e (elems.map (·.1)) ++ DataW.weightsAll P e (rest.map (·.1))), n ≤ reachBytes := by
      intro n hn
      refine hz n ?_
      simp only [DataW.weights, ht]
      exact hn
    have hb := hzz _ (List.mem_cons_self ..)
    have hsz : ∀ x ∈ elems, Sz P e x.1 := fun x hx n hn => hzz n (List.mem_cons_of_mem _ (List.mem_append_left _ (mem_weightsAll hn (List.mem_map_of_mem hx))))
    have step : ∀ i, i < len → ∃ r : List Value, (∀ j x, r[j]? = some x → w.cell? (a.add (i * s + j)) = some x) ∧ r.length = s ∧ ∃ x, r = en x ∧ Q x := by
      intro i hi
      have h1 := hel i hi
      rw [List.getElem?_eq_getElem (by omega), Option.bind_eq_some_iff] at h1
      obtain ⟨cs, hcs, hy⟩ := h1
      have h2 := World.cells?_some hcs
      refine ⟨cs, fun j x hx => ?_, h2.2.1, he n (by omega) _ _ hy (hsz _ (List.getElem_mem _))⟩
      have hj : j < s := by
        have := (List.getElem?_eq_some_iff.1 hx).1
        have := h2.2.1
        omega
      have h3 := h2.2.2 j hj
      rw [addr_add_add] at h3
      rw [h3]; exact hx
    obtain ⟨rows, hrl, hr⟩ := forall_rows step
    have hrs : ∀ r ∈ rows, r.length = s ∧ ∃ x, r = en x ∧ Q x := by
      intro r hr'
      obtain ⟨i, hi⟩ := List.getElem?_of_mem hr'
      exact (hr i r hi).2
    obtain ⟨l, rfl, hq⟩ := rows_list rows fun r h => (hrs r h).2
    rw [List.length_map] at hrl
    refine ⟨_, l, rfl, ?_, hq, ?_⟩
    · unfold RecS
      rw [hrl]
      have hfl : ((l.map en).flatten).length = len * s := by
        rw [List.length_flatten, ← hrl]
        clear hr hrl hq
        induction l with
        | nil => simp
        | cons r l ih =>
          simp only [List.map_cons, List.sum_cons, List.length_cons]
          rw [ih (fun r' h' => hrs r' (by simp only [List.map_cons, List.mem_cons]; exact Or.inr h')), (hrs (en r) (by simp)).1, Nat.add_mul]
          omega
      refine SlN.mk hfl hl hmx (fun h => by cases h) ?_
      intro a' ha i x hx
      simp only [Option.some.injEq] at ha
      subst ha
      obtain ⟨k, j, r, rfl, hj, hk, hx'⟩ := flatten_at (l.map en) (fun r hr' => (hrs r hr').1) i x hx
      exact (hr k r hk).1 j x hx'
    · rw [hrl, ← hlen]
      rw [List.length_map, List.length_map, Nat.add_mul] at hb
      exact Nat.le_trans (Nat.le_add_right _ _) hb
/-- A struct's fields, each by itself. -/
theorem oz_fields {t : TypeId} {fs : Array Field} {S m : Nat} {cs : List Value} {y : DataW H × List MemPlace} (ht : P.underlying t = some (.struct fs)) (hc : P.cellsOf t = S) (hy : DataW.trod enc P w 0 sp hd m t cs = some y) (hz : Sz P t y.1) :
    cs.length = S ∧ ∀ (i : Nat) (f : Field) (s : Nat) (R : List Value → Prop), fs[i]? = some f → P.cellsOf f.type = s → OZ m enc P w sp hd f.type R → R ((cs.drop f.offset).take s) := by
  obtain ⟨xs, n, rfl, hyx, hl, hxl, hf⟩ := DataW.trod_struct ht hy
  rw [hc] at hl
  refine ⟨hl, fun i f s R hi hs ho => ?_⟩
  have h1 := hf i f hi
  rw [hs] at h1
  have hlt : i < xs.length := by
    rw [hxl]
    exact (Array.getElem?_eq_some_iff.1 hi).1
  rw [List.getElem?_eq_getElem hlt] at h1
  refine ho n (by omega) _ _ h1 fun k hk => hz k ?_
  rw [hyx]
  simp only [DataW.weights, ht]
  exact DataW.weights_mem_each (j := i) (by simp [hi]) (by simp [hlt]) k hk
theorem oz_struct {t : TypeId} {fs : Array Field} {S : Nat} (ht : P.underlying t = some (.struct fs)) (hc : P.cellsOf t = S) :
    OZ M enc P w sp hd t (fun cs => cs.length = S ∧ ∀ (i : Nat) (f : Field) (s : Nat) (R : List Value → Prop), fs[i]? = some f → P.cellsOf f.type = s → (∀ M, OZ M enc P w sp hd f.type R) → R ((cs.drop f.offset).take s)) := fun m _ cs y hy hz => by
  obtain ⟨h1, h2⟩ := oz_fields ht hc hy hz
  exact ⟨h1, fun i f s R hi hs ho => h2 i f s R hi hs (ho m)⟩
/-- A struct that came in as a value. -/
theorem openZ_agg {t : TypeId} {v : Value} {d : DataW H} {ps : List MemPlace} {r : Reach} {b0 : Nat} {R : List Value → Prop} (hu : ∃ fs, P.underlying t = some (.struct fs)) (ho : ∀ M, OZ M enc P w sp hd t R)
    (hval : Value.okWide P w r b0 t v) (h : DataW.Trod enc P w 0 sp hd t v d ps) (hz : Sz P t d) : ∃ cs : List Value, v = .agg cs.toArray ∧ R cs := by
  obtain ⟨fuel, h⟩ := h
  have hv : ∃ cs, v = .agg cs := by
    obtain ⟨fs, ht⟩ := hu
    simp only [Value.okWide, ht] at hval
    exact ⟨_, hval.choose_spec.1⟩
  obtain ⟨cs, rfl⟩ := hv
  exact ⟨cs.toList, by simp, ho (fuel + 1) fuel (by omega) _ _ h hz⟩
end
/-- The row's step, with the bound on what came in. -/
theorem lifted_laterZ {C : Checked} {os : Os} {H : Type} {enc : TypeId × Value → H} {fid : FuncId} {f : Func} {s : ChangeSpec} {conds : List PathCond} {apart fresh handsOn again : Bool} {tb : TypeId}
    (own : ownKnob C.prog.godebug = none) (started : os.Started) (noInit : C.prog.inits.idxOf? fid = none) (hf : C.prog.funcs[fid]? = some f) (hb : HasBody C.prog fid)
    (witness : ∃ (w : World) (tape : Tape) (i : Input), w.os = os ∧ (w.forCall tape i).Shaped C.prog ∧ i.vars = [] ∧ Input.okWide C.prog (w.forCall tape i) .any w.heap.size fid i ∧
      s.pre6 enc C.prog f conds apart (w.forCall tape i).memory i.args ∧ ({} : Assume).holds C.prog (lone (Frame.enter C.prog fid i.args .normal) [] (w.forCall tape i)))
    (hl : laidOutB C.prog = true) (hts : ∀ t ∈ f.params.toList, C.prog.readableRec t = true ∧ t < C.prog.types.size) (hr : f.resultTypes = #[tb]) (htb : C.prog.underlying tb = some .bool)
    (hv : s.vars = []) (hfn : ∀ ds : List (DataW H), ds.length = f.params.toList.length → s.fn H ds = { results := [.lit (.bool true)], args := ds })
    (walk : ∀ (W : World) (base : Nat) (args : Array Value) (ds : List (DataW H)) (p : List MemPlace), (∀ (j : Nat) t v, f.params[j]? = some t → args[j]? = some v → Value.okWide C.prog W .any base t v) →
      (∀ (j : Nat) t d, f.params.toList[j]? = some t → ds[j]? = some d → Sz C.prog t d) →
      DataW.TrodAll enc C.prog W 0 (fun _ => true) true f.params.toList args.toList ds p → FnC C.prog fid args W fun v w' => v = .bool true ∧ Later W w') :
    ReturnsInHanded {} C os fid .any (s.pre6 enc C.prog f conds apart) (s.post enc C.prog f apart fresh handsOn again) := by
  refine returnsInHanded_of_change_shaped own started noInit hf witness ?_
  intro W base args ds gs before hval hW _ hwt _ _
  have hW' := hW
  obtain ⟨p, q, hA, hV, rfl, hfz, hnd⟩ := hW
  have hz : ∀ (j : Nat) t d, f.params.toList[j]? = some t → ds[j]? = some d → Sz C.prog t d := by
    intro j t d hj hd n hn
    have h1 := (List.getElem?_eq_some_iff.1 hj).1
    have h2 := (List.getElem?_eq_some_iff.1 hd).1
    have := List.all_eq_true.1 hwt n (DataW.weights_mem_each (j := j) (by rw [List.getElem?_append_left h1]; exact hj) (by rw [List.getElem?_append_left h2]; exact hd) n hn)
    simpa using this
  have hw := walk W base args ds p hval hz hA
  unfold FnC at hw
  rw [hb args W] at hw
  have hw : Ret C.prog fid args W fun v w' => v = .bool true ∧ Later W w' := hw
  refine hw.mono fun e w' ⟨v, he, hv', hlat⟩ => ?_
  subst hv'
  exact ⟨_, he, post_later hl hts hr htb hv (hfn ds (trodAll_ps_len hA).2) hW' hlat⟩
end Go.Vc
end
section
namespace Go.Vc
open Go.RowKit Go.ChangeShapes
/-- A filter, and where its kids lie. -/
inductive FT where
  | mk (op : Int) (dim value : ByteArray) (kv : Value) (kids : List FT)
def FT.op : FT → Int | .mk op _ _ _ _ => op
def FT.dim : FT → ByteArray | .mk _ d _ _ _ => d
def FT.value : FT → ByteArray | .mk _ _ v _ _ => v
def FT.kv : FT → Value | .mk _ _ _ kv _ => kv
def FT.kids : FT → List FT | .mk _ _ _ _ l => l
def ftC (f : FT) : List Value := [.int .i64 f.op, .string f.dim, .string f.value, f.kv]
theorem ftC_len (f : FT) : (ftC f).length = 4 := rfl
mutual
def FT.Ok (w : World) : FT → Prop
  | .mk op d v kv l => (-9223372036854775808 ≤ op ∧ op ≤ 9223372036854775807) ∧ d.size ≤ 140737488351232 ∧ v.size ≤ 140737488351232 ∧ RecS ftC 4 w kv l ∧ FT.OkL w l
def FT.OkL (w : World) : List FT → Prop
  | [] => True
  | k :: l => k.Ok w ∧ FT.OkL w l
end
theorem FT.ind {P : FT → Prop} (h : ∀ f : FT, (∀ k ∈ f.kids, P k) → P f) : ∀ f, P f := by
  intro f
  refine FT.rec (motive_1 := P) (motive_2 := fun l => ∀ k ∈ l, P k) ?_ ?_ ?_ f
  · intro op d v kv l ih
    exact h _ ih
  · intro k hk; cases hk
  · intro k l h1 h2 x hx
    rcases List.mem_cons.1 hx with rfl | hx
    · exact h1
    · exact h2 x hx
theorem FT.okL_all {w : World} : ∀ {l : List FT}, FT.OkL w l ↔ ∀ k ∈ l, k.Ok w
  | [] => by simp [FT.OkL]
  | k :: l => by
    show k.Ok w ∧ FT.OkL w l ↔ _
    rw [FT.okL_all (l := l)]
    simp
theorem FT.ok_iff {w : World} {f : FT} : f.Ok w ↔ (-9223372036854775808 ≤ f.op ∧ f.op ≤ 9223372036854775807) ∧ f.dim.size ≤ 140737488351232 ∧ f.value.size ≤ 140737488351232 ∧ RecS ftC 4 w f.kv f.kids ∧ ∀ k ∈ f.kids, k.Ok w := by
  obtain ⟨op, d, v, kv, l⟩ := f
  show _ ∧ _ ∧ _ ∧ _ ∧ FT.OkL w l ↔ _
  rw [FT.okL_all]
  rfl
theorem FT.Ok.later {w w' : World} (hl : Later w w') : ∀ {f : FT}, f.Ok w → f.Ok w' := by
  intro f
  induction f using FT.ind with
  | h f ih =>
    intro hf
    obtain ⟨h1, h2, h3, h4, h5⟩ := FT.ok_iff.1 hf
    exact FT.ok_iff.2 ⟨h1, h2, h3, RecS.later h4 hl, fun k hk => ih k hk (h5 k hk)⟩
/-! What is asked of them. -/
mutual
def FT.deep : FT → Nat
  | .mk _ _ _ _ l => FT.deepL l + 1
def FT.deepL : List FT → Nat
  | [] => 0
  | k :: l => max k.deep (FT.deepL l)
end

mutual
def FT.dims : FT → List ByteArray
  | .mk op d _ _ l => (if op = 1 ∨ op = 2 then [d] else []) ++ FT.dimsL l
def FT.dimsL : List FT → List ByteArray
  | [] => []
  | k :: l => k.dims ++ FT.dimsL l
end

mutual
def FT.vals : FT → List ByteArray
  | .mk _ _ v _ l => v :: FT.valsL l
def FT.valsL : List FT → List ByteArray
  | [] => []
  | k :: l => k.vals ++ FT.valsL l
end
/-! The values of the conditions. -/
mutual
def FT.cvals : FT → List ByteArray
  | .mk op _ v _ l => (if op = 1 ∨ op = 2 then [v] else []) ++ FT.cvalsL l
def FT.cvalsL : List FT → List ByteArray
  | [] => []
  | k :: l => k.cvals ++ FT.cvalsL l
end
/-- Without its kids. -/
def FT.own (op : Int) (d v : ByteArray) (n : Nat) : Prop :=
  (op = 1 ∧ n = 0) ∨ (op = 2 ∧ n = 0 ∧ v.size = 0) ∨ (op = 3 ∧ n = 1 ∧ d.size = 0 ∧ v.size = 0) ∨ ((op = 4 ∨ op = 5) ∧ 2 ≤ n ∧ d.size = 0 ∧ v.size = 0)
instance (op : Int) (d v : ByteArray) (n : Nat) : Decidable (FT.own op d v n) := inferInstanceAs (Decidable (_ ∨ _))
mutual
def FT.form : FT → Nat → Bool
  | .mk op d v _ l, deep => !(deep == 0) && FT.formL l (deep - 1) && decide (FT.own op d v l.length)
def FT.formL : List FT → Nat → Bool
  | [], _ => true
  | k :: l, deep => k.form deep && FT.formL l deep
end
theorem FT.form_is (f : FT) (deep : Nat) : f.form deep = (!(deep == 0) && f.kids.all (fun k => k.form (deep - 1)) && decide (FT.own f.op f.dim f.value f.kids.length)) := by
  obtain ⟨op, d, v, kv, l⟩ := f
  have : ∀ (l : List FT) (n : Nat), FT.formL l n = l.all fun k => k.form n := by
    intro l n
    induction l with
    | nil => rfl
    | cons k l ih => show (k.form n && FT.formL l n) = _; rw [ih]; rfl
  show (!(deep == 0) && FT.formL l (deep - 1) && decide (FT.own op d v l.length)) = _
  rw [this]
  rfl
theorem FT.dims_is (f : FT) : f.dims = (if f.op = 1 ∨ f.op = 2 then [f.dim] else []) ++ f.kids.flatMap FT.dims := by
  obtain ⟨op, d, v, kv, l⟩ := f
  have : ∀ l : List FT, FT.dimsL l = l.flatMap FT.dims := by
    intro l
    induction l with
    | nil => rfl
    | cons k l ih => show k.dims ++ FT.dimsL l = _; rw [ih]; rfl
  show _ ++ FT.dimsL l = _
  rw [this]
  rfl
theorem FT.vals_is (f : FT) : f.vals = f.value :: f.kids.flatMap FT.vals := by
  obtain ⟨op, d, v, kv, l⟩ := f
  have : ∀ l : List FT, FT.valsL l = l.flatMap FT.vals := by
    intro l
    induction l with
    | nil => rfl
    | cons k l ih => show k.vals ++ FT.valsL l = _; rw [ih]; rfl
  show v :: FT.valsL l = _
  rw [this]
  rfl
theorem FT.cvals_is (f : FT) : f.cvals = (if f.op = 1 ∨ f.op = 2 then [f.value] else []) ++ f.kids.flatMap FT.cvals := by
  obtain ⟨op, d, v, kv, l⟩ := f
  have : ∀ l : List FT, FT.cvalsL l = l.flatMap FT.cvals := by
    intro l
    induction l with
    | nil => rfl
    | cons k l ih => show k.cvals ++ FT.cvalsL l = _; rw [ih]; rfl
  show _ ++ FT.cvalsL l = _
  rw [this]
  rfl
theorem FT.deep_is (f : FT) : f.deep = f.kids.foldl (fun n k => max n k.deep) 0 + 1 := by
  obtain ⟨op, d, v, kv, l⟩ := f
  have : ∀ (l : List FT) (n : Nat), l.foldl (fun n k => max n k.deep) n = max n (FT.deepL l) := by
    intro l
    induction l with
    | nil => intro n; show n = max n 0; omega
    | cons k l ih => intro n; show l.foldl _ (max n k.deep) = max n (max k.deep (FT.deepL l)); rw [ih]; omega
  show FT.deepL l + 1 = l.foldl _ 0 + 1
  rw [this]; omega
end Go.Vc
namespace Go.Proofs.YtnofalhkapmcnaaGreat
open Go.Vc Go.RowKit Go.ChangeShapes
section
variable {H : Type} {enc : TypeId × Value → H} {w : World} {sp : Nat → Bool} {hd : Bool}
theorem filter_at : ∀ m, OZ m enc Tryz.prog w sp hd 29 (fun cs => ∃ f : FT, cs = ftC f ∧ f.Ok w) := by
  intro m
  induction m with
  | zero => intro m hm; omega
  | succ M ih =>
    intro m hm cs y hy hz
    have ih : OZ m enc Tryz.prog w sp hd 29 (fun cs => ∃ f : FT, cs = ftC f ∧ f.Ok w) := fun m' hm' => ih m' (by omega)
    obtain ⟨hl, hf⟩ := oz_fields (S := 4) Tryz.underlying29 (by kernel_rfl) hy hz
    match cs, hl with
    | [c0, c1, c2, c3], _ =>
      obtain ⟨op, h0, w0⟩ := hf 0 _ 1 _ rfl (by kernel_rfl) (oz_i64 Tryz.underlying26)
      obtain ⟨d, h1, w1⟩ := hf 1 _ 1 _ rfl (by kernel_rfl) (oz_string Tryz.underlying9)
      obtain ⟨v, h2, w2⟩ := hf 2 _ 1 _ rfl (by kernel_rfl) (oz_string Tryz.underlying9)
      obtain ⟨kv, l, h3, w3, w4, _⟩ := hf 3 _ 1 _ rfl (by kernel_rfl) (oz_slice (en := ftC) (Q := fun f => f.Ok w) (s := 4) Tryz.underlying27 (by kernel_rfl) ih)
      obtain rfl : c0 = _ := (List.cons.inj h0).1
      obtain rfl : c1 = _ := (List.cons.inj h1).1
      obtain rfl : c2 = _ := (List.cons.inj h2).1
      obtain rfl : c3 = _ := (List.cons.inj h3).1
      exact ⟨.mk op d v c3 l, rfl, FT.ok_iff.2 ⟨w0, w1, w2, w3, w4⟩⟩
end
end Go.Proofs.YtnofalhkapmcnaaGreat
end
