/- Whole blocks: what they hold, what a change of some of them leaves. -/
import Derived.Test.YtfeocfcclmndoaaMem
namespace Go.Vc
open Go.RowKit
/-- A block's cells, none frozen. -/
def Blk (w : World) (k : Nat) (cs : Array Value) (e : TypeId) : Prop := w.heap[k]? = some (.cells cs e (0, 0))
theorem Blk.lt {w : World} {k : Nat} {cs : Array Value} {e : TypeId} (h : Blk w k cs e) : k < w.heap.size := by
  unfold Blk at h
  by_cases hk : k < w.heap.size
  · exact hk
  · rw [Array.getElem?_eq_none (by omega)] at h; cases h
theorem Blk.cell {w : World} {k : Nat} {cs : Array Value} {e : TypeId} (h : Blk w k cs e) (i : Nat) : w.cell? ⟨k, i, none⟩ = cs[i]? := by
  unfold Blk at h
  simp [World.cell?, h]
theorem Blk.frozen {w : World} {k : Nat} {cs : Array Value} {e : TypeId} (h : Blk w k cs e) (i : Nat) : w.frozen? ⟨k, i, none⟩ = false := by
  unfold Blk at h
  simp [World.frozen?, h]
theorem Blk.set {w : World} {k : Nat} {cs : Array Value} {e : TypeId} (h : Blk w k cs e) (i : Nat) (v : Value) : Blk (w.setCell ⟨k, i, none⟩ v) k (cs.setIfInBounds i v) e := by
  unfold Blk at h ⊢
  simp [World.setCell, Array.getElem?_modify, h]
theorem Blk.new (w : World) (cs : Array Value) (e : TypeId) : Blk (w.alloc (.cells cs e)) w.heap.size cs e := heap_new w _
theorem heap_alloc {w : World} {k : Nat} (h : k < w.heap.size) (o : Obj) : (w.alloc o).heap[k]? = w.heap[k]? := by
  show (w.heap.push o)[k]? = _
  rw [Array.getElem?_push, if_neg (by omega)]
theorem Blk.alloc {w : World} {k : Nat} {cs : Array Value} {e : TypeId} (h : Blk w k cs e) (o : Obj) : Blk (w.alloc o) k cs e := by
  have := heap_alloc h.lt o
  unfold Blk at h ⊢
  rw [this, h]
/-- Behind w, but for the blocks of ks. -/
structure Chg (w w' : World) (ks : List Nat) : Prop where
  os : w'.os = w.os
  tape : w'.tape = w.tape
  output : w'.output = w.output
  size : w.heap.size ≤ w'.heap.size
  block : ∀ k, k < w.heap.size → k ∉ ks → w'.heap[k]? = w.heap[k]?
theorem Chg.refl (w : World) (ks : List Nat) : Chg w w ks := ⟨rfl, rfl, rfl, Nat.le_refl _, fun _ _ _ => rfl⟩
theorem Chg.trans {a b c : World} {ks : List Nat} (h : Chg a b ks) (g : Chg b c ks) : Chg a c ks :=
  ⟨g.os.trans h.os, g.tape.trans h.tape, g.output.trans h.output, Nat.le_trans h.size g.size, fun k hk hn => (g.block k (Nat.lt_of_lt_of_le hk h.size) hn).trans (h.block k hk hn)⟩
theorem Chg.mono {a b : World} {ks js : List Nat} (h : Chg a b ks) (hs : ∀ k ∈ ks, k ∈ js) : Chg a b js :=
  ⟨h.os, h.tape, h.output, h.size, fun k hk hn => h.block k hk fun hm => hn (hs k hm)⟩
theorem Chg.of_later {a b : World} {ks : List Nat} (h : Later a b) : Chg a b ks := ⟨h.os, h.tape, h.output, h.size, fun k hk _ => h.block k hk⟩
theorem Chg.later {a b c : World} {ks : List Nat} (h : Later a b) (g : Chg b c ks) (hk : ∀ k ∈ ks, a.heap.size ≤ k) : Later a c :=
  ⟨g.os.trans h.os, g.tape.trans h.tape, g.output.trans h.output, Nat.le_trans h.size g.size, fun k hka => (g.block k (Nat.lt_of_lt_of_le hka h.size) fun hm => by have := hk k hm; omega).trans (h.block k hka)⟩
theorem Chg.alloc {a b : World} {ks : List Nat} (h : Chg a b ks) (o : Obj) : Chg a (b.alloc o) ks := h.trans (Chg.of_later (later_alloc _ _))
theorem chg_setCell (w : World) {k i : Nat} {ks : List Nat} (hk : k ∈ ks) (v : Value) : Chg w (w.setCell ⟨k, i, none⟩ v) ks :=
  ⟨rfl, rfl, rfl, by simp [World.setCell], fun j _ hn => by
    have : k ≠ j := fun e => hn (e ▸ hk)
    simp [World.setCell, Array.getElem?_modify, this]⟩
theorem Chg.set {a b : World} {ks : List Nat} (h : Chg a b ks) {k i : Nat} (hk : k ∈ ks) (v : Value) : Chg a (b.setCell ⟨k, i, none⟩ v) ks := h.trans (chg_setCell b hk v)
theorem Blk.chg {w w' : World} {ks : List Nat} {k : Nat} {cs : Array Value} {e : TypeId} (h : Blk w k cs e) (g : Chg w w' ks) (hk : k ∉ ks) : Blk w' k cs e := by
  have := g.block k h.lt hk
  unfold Blk at h ⊢
  rw [this, h]
/-- The block that a slice lies in, if it has an element. -/
def inB (k : Nat) : Value → Prop
  | .slice (some a) n _ => n = 0 ∨ a.block = k
  | _ => True
theorem SlN.chg {w w' : World} {s n : Nat} {v : Value} {xs : List Value} {ks : List Nat} {k : Nat} (h : SlN w s v n xs) (g : Chg w w' ks) (hk : k ∉ ks) (hv : inB k v) : SlN w' s v n xs := by
  obtain ⟨o, c, rfl, h1, h2, h3, h4, h5⟩ := h.open
  refine SlN.mk h3 h1 h2 h4 fun a ha i x hx => ?_
  have hc := h5 a ha i x hx
  have hlt := lt_of_cell hc
  rw [addr_add_block] at hlt
  subst ha
  have hb : a.block = k := by
    rcases hv with h0 | h
    · subst h0
      simp only [Nat.zero_mul] at h3
      rw [List.eq_nil_of_length_eq_zero h3] at hx; cases hx
    · exact h
  have e := g.block a.block hlt (hb ▸ hk)
  rw [← addr_add_block a i] at e
  unfold World.cell? at hc ⊢
  rw [e]; exact hc
theorem Sl.chg {w w' : World} {v : Value} {xs : List Value} {ks : List Nat} {k : Nat} (h : Sl w v xs) (g : Chg w w' ks) (hk : k ∉ ks) (hv : inB k v) : Sl w' v xs := SlN.chg h g hk hv
/-- The block of a slice that reads: some block below the heap's size, or no matter which. -/
theorem inB_lt {w : World} {v : Value} {xs : List Value} (h : Sl w v xs) : (∀ j, inB j v) ∨ ∃ k, k < w.heap.size ∧ inB k v := by
  obtain ⟨o, c, rfl, h1, h2, h3, h4⟩ := h.open
  cases o with
  | none => exact .inl fun j => trivial
  | some a =>
    cases xs with
    | nil => exact .inl fun j => .inl rfl
    | cons x xs =>
      have := lt_of_cell (h4 a rfl 0 x rfl)
      rw [addr_add_block] at this
      exact .inr ⟨a.block, this, .inr rfl⟩
theorem own_in {w : World} {base s n : Nat} {e : TypeId} {v : Value} {xs : List Value} (h : w.ownsRow base e s v n xs) : ∃ k, (k < w.heap.size ∨ k = base) ∧ base ≤ k ∧ inB k v := by
  obtain ⟨_, h⟩ := h
  rcases h with ⟨rfl, _⟩ | ⟨g, cap, cur, rfl, hb, hh, _⟩
  · exact ⟨base, .inr rfl, Nat.le_refl _, trivial⟩
  · exact ⟨g, .inl (Blk.lt hh), hb, .inr rfl⟩
theorem inB_part {k : Nat} {o : Option Addr} {n c : Nat} (h : inB k (.slice o n c)) (l m : Int) (s a b : Nat) (ha : a ≤ n) : inB k (.slice (slAddr o l m s) a b) := by
  unfold slAddr
  split
  · cases o with
    | none => trivial
    | some ad => exact h.imp (fun h => by omega) id
  · cases o with
    | none => trivial
    | some ad => simp only [Option.map_some, inB, addr_add_block]; exact h.imp (fun h => by omega) id
/-- A literal's block is the call's own. -/
theorem own_lit (w : World) (l : List Value) (e : TypeId) (s n : Nat) (h : l.length = n * s) (hn : n ≤ maxLen) {base : Nat} (hb : base ≤ w.heap.size) : (w.alloc (.cells l.toArray e)).ownsRow base e s (.slice (some ⟨w.heap.size, 0, none⟩) n n) n l := by
  refine ⟨h, .inr ⟨w.heap.size, n, l.toArray, rfl, hb, heap_new w _, Nat.le_refl _, hn, by simpa using h, ?_⟩⟩
  rw [← h]; simp
theorem own_chg {w w' : World} {base s n : Nat} {e : TypeId} {v : Value} {xs : List Value} {ks : List Nat} (h : w.ownsRow base e s v n xs) (g : Chg w w' ks) (hk : ∀ k ∈ ks, k < base) : w'.ownsRow base e s v n xs := by
  obtain ⟨h0, h⟩ := h
  refine ⟨h0, ?_⟩
  rcases h with h | ⟨b, cap, cur, hv, hb, hh, h3⟩
  · exact .inl h
  · refine .inr ⟨b, cap, cur, hv, hb, ?_, h3⟩
    rw [g.block b (Blk.lt hh) fun hm => by have := hk b hm; omega]; exact hh
/-- The first k. -/
theorem Sl.pre {w : World} {o : Option Addr} {n c : Nat} {xs : List Value} (h : Sl w (.slice o n c) xs) {k : Nat} (hk : k ≤ n) : Sl w (.slice o k c) (xs.take k) := by
  obtain ⟨hn, hc, hm, _⟩ := h.len
  have hs := h.part (l := 0) (k := (k : Int)) (m := (c : Int)) (by omega) (by omega) (by omega) (by omega) (by omega)
  simp only [Int.sub_zero, Int.toNat_zero, List.drop_zero, Int.toNat_natCast] at hs
  unfold slAddr at hs
  split at hs
  · exact hs
  · cases o with
    | none => exact hs
    | some a => simpa [addr_add_zero] using hs
theorem Chg.of_grown {w w' : World} {row : Option Nat} (g : w.grownBy w' row) : Chg w w' row.toList :=
  ⟨g.os, g.tape, g.output, g.size, fun k hk hn => g.block k hk fun h => hn (by simp [h])⟩
/-- A slice that the call owns, laid later than the block that grew: it stays. -/
theorem own_grown {w w' : World} {base base' s n n' : Nat} {e e' : TypeId} {v v' : Value} {xs xs' : List Value} (h : w.ownsRow base e s v n xs) {w0 : World} (hc : w0.ownsRow base' e' s v' n' xs') (hb : w0.heap.size ≤ base) (g : w.grownBy w' v'.ownBlock) : w'.ownsRow base e s v n xs := by
  refine own_chg h (Chg.of_grown g) fun k hk => ?_
  obtain ⟨_, hc⟩ := hc
  rcases hc with ⟨rfl, _⟩ | ⟨b, cap, cur, rfl, _, hh, _⟩
  · simp [Value.ownBlock] at hk
  · simp [Value.ownBlock] at hk
    have := Blk.lt hh
    omega
end Go.Vc
