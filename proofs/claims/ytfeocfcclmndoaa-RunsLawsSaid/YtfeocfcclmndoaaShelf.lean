/- From the library's contracts to mine: rows that a call owns, put in order in place. -/
import Derived.Test.YtfeocfcclmndoaaMem8
import Derived.Test.YtfeocfcclmndoaaInts
import Derived.Sort.Grow
import Derived.Lib.SlicesCompact
namespace Go.Vc
open Go.RowKit Go.Sort
/-- A contract in the plain sense, as a contract of mine. -/
theorem FnC.of_calls {P : Program} {f : FuncId} {args : Array Value} {w : World} {R : Value → World → Prop} {Q : Ending → World → Prop} (hb : HasBody P f) (h : Calls P f args w Q) (hR : ∀ e w', Q e w' → ∃ v, e = .returned v ∧ R v w') : FnC P f args w R :=
  hb.fn (Calls.mono h hR)
theorem heap_mapBlock {w : World} {k : Nat} {f : Array Value → Array Value} {cs : Array Value} {e : TypeId} (h : Blk w k cs e) : Blk (mapBlock w k f) k (f cs) e := by
  unfold Blk at *
  unfold mapBlock
  simp [Array.getElem?_modify, h, onCells]
theorem heap_mapBlock_ne (w : World) {k j : Nat} (f : Array Value → Array Value) (h : k ≠ j) : (mapBlock w k f).heap[j]? = w.heap[j]? := by
  unfold mapBlock
  simp [Array.getElem?_modify, h]
/-- A row that the call owns, put anew in place; blocks behind. -/
theorem own_put {α : Type} [Inhabited α] {enc : α → Value} {w : World} {base n c g q : Nat} {e : TypeId} {l : List α} {d : Array α} {os : Array Obj} (h : w.ownsRow base e 1 (.slice (some ⟨g, 0, none⟩) n c) n (l.map enc)) (hd : d.size = n) :
    (grow (putRow enc (Sort.ahead w q) g 0 d) os).ownsRow base e 1 (.slice (some ⟨g, 0, none⟩) n c) n (d.toList.map enc) ∧ Chg w (grow (putRow enc (Sort.ahead w q) g 0 d) os) [g] := by
  obtain ⟨h0, h⟩ := h
  rcases h with ⟨h, _⟩ | ⟨g', cap, cur, hv, hb, hh, h1, h2, h3, h4⟩
  · cases h
  · simp only [Value.slice.injEq, Option.some.injEq] at hv
    obtain ⟨e1, -, e2⟩ := hv
    subst e2
    have hg : g' = g := by have := congrArg Addr.block e1; simpa using this.symm
    subst hg
    have hB : Blk (Sort.ahead w q) g' cur e := hh
    have hB2 := heap_mapBlock (f := putCells enc 0 d) hB
    have hlt : g' < w.heap.size := Blk.lt (cs := cur) (e := e) hh
    have hsz : (putRow enc (Sort.ahead w q) g' 0 d).heap.size = w.heap.size := by rw [size_putRow]; rfl
    refine ⟨⟨by simp [hd], .inr ⟨g', c, putCells enc 0 d cur, rfl, hb, ?_, h1, h2, by simpa [putCells] using h3, ?_⟩⟩, ⟨rfl, rfl, rfl, ?_, ?_⟩⟩
    · rw [heap_grow_old _ _ (by rw [hsz]; exact hlt)]
      exact hB2
    · have hc : cur.size = c := by simpa using h3
      apply List.ext_getElem
      · simp [putCells, hd]; omega
      · intro i i1 i2
        have hi : i < d.size := by simpa using i2
        simp [putCells, hi, getElem!_pos]
    · show w.heap.size ≤ ((putRow enc (Sort.ahead w q) g' 0 d).heap ++ os).size
      rw [Array.size_append, hsz]; omega
    · intro k hk hn
      rw [heap_grow_old _ _ (by rw [hsz]; exact hk)]
      exact heap_mapBlock_ne _ _ (fun e => hn (by simp [e]))
theorem holds_own {α : Type} [Inhabited α] {enc : α → Value} {w : World} {base n c g : Nat} {e : TypeId} {l : List α} (h : w.ownsRow base e 1 (.slice (some ⟨g, 0, none⟩) n c) n (l.map enc)) : Holds enc w g 0 l.toArray ∧ g < w.heap.size ∧ base ≤ g := by
  obtain ⟨h0, h⟩ := h
  rcases h with ⟨h, _⟩ | ⟨g', cap, cur, hv, hb, hh, h1, h2, h3, h4⟩
  · cases h
  · simp only [Value.slice.injEq, Option.some.injEq] at hv
    obtain ⟨e1, -, e2⟩ := hv
    subst e2
    have hg : g' = g := by have := congrArg Addr.block e1; simpa using this.symm
    subst hg
    have hB : Blk w g' cur e := hh
    refine ⟨fun j hj => ⟨?_, hB.frozen _⟩, hB.lt, hb⟩
    have hj : j < l.length := by simpa using hj
    rw [hB.cell, Nat.zero_add]
    have : (cur.toList.take (n * 1))[j]? = (l.map enc)[j]? := by rw [h4]
    rw [List.getElem?_take_of_lt (by simp at h0; omega)] at this
    simp only [List.getElem?_map] at this
    rw [Array.getElem?_toList] at this
    rw [this, List.getElem?_eq_getElem hj]
    simp [getElem!_pos, hj]
/-- Fewer of them. -/
theorem own_less {w : World} {base n c m : Nat} {e : TypeId} {a : Addr} {xs : List Value} (h : w.ownsRow base e 1 (.slice (some a) n c) n xs) (hm : m ≤ n) : w.ownsRow base e 1 (.slice (some a) m c) m (xs.take m) := by
  obtain ⟨h0, h⟩ := h
  rcases h with ⟨h, _⟩ | ⟨g', cap, cur, hv, hb, hh, h1, h2, h3, h4⟩
  · cases h
  · simp only [Value.slice.injEq, Option.some.injEq] at hv
    obtain ⟨e1, -, e2⟩ := hv
    subst e1 e2
    refine ⟨by simp; omega, .inr ⟨g', c, cur, rfl, hb, hh, by omega, h2, h3, ?_⟩⟩
    rw [← h4, List.take_take]
    congr 1; omega
/-- An owned row with an element begins its block. -/
theorem own_addr {w : World} {base n m c : Nat} {e : TypeId} {o : Option Addr} {xs : List Value} (h : w.ownsRow base e 1 (.slice o m c) n xs) (hn : 0 < n) : ∃ g, o = some ⟨g, 0, none⟩ ∧ m = n := by
  obtain ⟨h0, h⟩ := h
  rcases h with ⟨_, h⟩ | ⟨g', cap, cur, hv, hb, hh, h1, h2, h3, h4⟩
  · omega
  · simp only [Value.slice.injEq] at hv
    exact ⟨g', hv.1, hv.2.1⟩
/-! ### in order, each once -/
def srt (l : List Int) : List Int := l.mergeSort fun x y => decide (x ≤ y)
theorem srt_len (l : List Int) : (srt l).length = l.length := List.length_mergeSort _
theorem srt_mem (l : List Int) (x : Int) : x ∈ srt l ↔ x ∈ l := List.mem_mergeSort
theorem srt_pair (l : List Int) : (srt l).Pairwise (· ≤ ·) := by
  have := List.pairwise_mergeSort (le := fun x y : Int => decide (x ≤ y)) (by intro a b c; simp; omega) (by intro a b; simp; omega) l
  exact this.imp (by simp)
def uniq (l : List Int) : List Int := Lib.compactUpTo l.toArray l.length
theorem getB {l : List Int} {i : Nat} (h : i < l.length) : l.toArray[i]! = l[i] := by simp [getElem!_pos, h]
theorem uniq_spec {l : List Int} (h : l.Pairwise (· ≤ ·)) : (uniq l).Pairwise (· < ·) ∧ ∀ x, x ∈ uniq l ↔ x ∈ l := by
  have key : ∀ m, m ≤ l.length → (Lib.compactUpTo l.toArray m).Pairwise (· < ·) ∧ (∀ x, x ∈ Lib.compactUpTo l.toArray m ↔ x ∈ l.take m) := by
    intro m
    induction m with
    | zero => intro _; simp [Lib.compactUpTo]
    | succ m ih =>
      intro hm
      obtain ⟨i1, i2⟩ := ih (by omega)
      have hge : ∀ x ∈ l.take m, x ≤ l[m]'(by omega) := by
        intro x hx
        obtain ⟨j, hj, rfl⟩ := List.getElem_of_mem hx
        rw [List.length_take] at hj
        rw [List.getElem_take]
        exact List.pairwise_iff_getElem.1 h j m _ _ (by omega)
      rw [Lib.compactUpTo_succ, getB (by omega)]
      have hmem : ∀ x, x ∈ l.take (m + 1) ↔ x ∈ l.take m ∨ x = l[m]'(by omega) := fun x => by
        rw [List.take_add_one, List.getElem?_eq_getElem (by omega), Option.toList_some, List.mem_append, List.mem_singleton]
      by_cases hk : Lib.keeps l.toArray m = true
      · rw [if_pos hk]
        refine ⟨?_, fun x => by rw [List.mem_append, List.mem_singleton, i2, hmem]⟩
        rw [List.pairwise_append]
        refine ⟨i1, List.pairwise_singleton _ _, fun x hx y hy => ?_⟩
        simp only [List.mem_singleton] at hy
        subst hy
        have hx' := (i2 x).1 hx
        have h1 := hge x hx'
        obtain ⟨j, hj, rfl⟩ := List.getElem_of_mem hx'
        rw [List.length_take] at hj
        simp only [Lib.keeps, decide_eq_true_eq] at hk
        have hm0 : m ≠ 0 := by omega
        rcases hk with hk | hk
        · exact absurd hk hm0
        · rw [getB (by omega), getB (by omega)] at hk
          rw [List.getElem_take] at h1 ⊢
          have h2 : l[j]'(by omega) ≤ l[m - 1]'(by omega) := by
            by_cases e : j = m - 1
            · subst e; exact Int.le_refl _
            · exact List.pairwise_iff_getElem.1 h j (m - 1) _ _ (by omega)
          have h3 : l[m - 1]'(by omega) ≤ l[m]'(by omega) := List.pairwise_iff_getElem.1 h (m - 1) m _ _ (by omega)
          omega
      · rw [if_neg hk, List.append_nil]
        refine ⟨i1, fun x => ?_⟩
        rw [i2, hmem]
        constructor
        · exact .inl
        · rintro (hx | rfl)
          · exact hx
          · have hk' : ¬ (m = 0 ∨ l.toArray[m]! ≠ l.toArray[m - 1]!) := by simpa [Lib.keeps] using hk
            have hm0 : m ≠ 0 := fun e => hk' (.inl e)
            have he : l.toArray[m]! = l.toArray[m - 1]! := Classical.not_not.1 fun e => hk' (.inr e)
            rw [getB (by omega), getB (by omega)] at he
            rw [he]
            have hlt : m - 1 < (l.take m).length := by rw [List.length_take]; omega
            have := List.getElem_mem hlt
            rwa [List.getElem_take] at this
  have := key l.length (Nat.le_refl _)
  rw [List.take_length] at this
  exact this
theorem uniq_len (l : List Int) : (uniq l).length ≤ l.length := by
  unfold uniq Lib.compactUpTo
  rw [List.length_map]
  have := List.length_filter_le (Lib.keeps l.toArray) (List.range l.length)
  simpa using this
end Go.Vc
