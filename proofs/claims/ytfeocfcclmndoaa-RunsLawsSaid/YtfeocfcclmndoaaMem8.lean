/- Rows of a call's own, beside records and blocks of other types. -/
import Derived.Test.YtfeocfcclmndoaaMem7
namespace Go.Vc
open Go.RowKit
/-- A row of one type stays where a block of another is written. -/
theorem own_chg_ty {w w' : World} {base s n k : Nat} {e e' : TypeId} {cs : Array Value} {v : Value} {xs : List Value} (h : w.ownsRow base e s v n xs) (hb : Blk w k cs e') (hne : e ≠ e') (g : Chg w w' [k]) : w'.ownsRow base e s v n xs := by
  obtain ⟨h0, h⟩ := h
  refine ⟨h0, ?_⟩
  rcases h with h | ⟨b, cap, cur, hv, hbb, hh, h3⟩
  · exact .inl h
  · refine .inr ⟨b, cap, cur, hv, hbb, ?_, h3⟩
    rw [g.block b (Blk.lt hh) ?_]
    · exact hh
    · intro hm
      simp only [List.mem_singleton] at hm
      subst hm
      unfold Blk at hb
      rw [hh] at hb
      simp only [Option.some.injEq, Obj.cells.injEq] at hb
      exact hne hb.2.1
theorem own_obj {w w' : World} {base s n k : Nat} {e : TypeId} {o : Obj} {v : Value} {xs : List Value} (h : w.ownsRow base e s v n xs) (hb : w.heap[k]? = some o) (ho : o.isCells = false) (g : Chg w w' [k]) : w'.ownsRow base e s v n xs := by
  obtain ⟨h0, h⟩ := h
  refine ⟨h0, ?_⟩
  rcases h with h | ⟨b, cap, cur, hv, hbb, hh, h3⟩
  · exact .inl h
  · refine .inr ⟨b, cap, cur, hv, hbb, ?_, h3⟩
    rw [g.block b (Blk.lt hh) ?_]
    · exact hh
    · intro hm
      simp only [List.mem_singleton] at hm
      subst hm
      rw [hh] at hb
      simp only [Option.some.injEq] at hb
      subst hb
      simp [Obj.isCells] at ho
theorem own_ne {w : World} {base s n k : Nat} {e : TypeId} {o : Obj} {v : Value} {xs : List Value} (h : w.ownsRow base e s v n xs) (hk : w.heap[k]? = some o) (ho : ∀ cs, o ≠ .cells cs e (0, 0)) : v.ownBlock ≠ some k := by
  obtain ⟨h0, h⟩ := h
  rcases h with ⟨rfl, _⟩ | ⟨b, cap, cur, rfl, _, hh, _⟩
  · simp [Value.ownBlock]
  · simp only [Value.ownBlock]
    intro he
    simp only [Option.some.injEq] at he
    subst he
    rw [hh] at hk
    simp only [Option.some.injEq] at hk
    exact ho cur hk.symm
theorem not_cells {o : Obj} (h : o.isCells = false) (e : TypeId) : ∀ cs, o ≠ .cells cs e (0, 0) := by
  intro cs e'
  subst e'
  simp [Obj.isCells] at h
theorem grown_obj {w w' : World} {base s n k : Nat} {e : TypeId} {o : Obj} {v : Value} {xs : List Value} (h : w.ownsRow base e s v n xs) (g : w.grownBy w' v.ownBlock) (hk : w.heap[k]? = some o) (ho : ∀ cs, o ≠ .cells cs e (0, 0)) : w'.heap[k]? = some o := by
  rw [g.block k (Array.getElem?_eq_some_iff.1 hk).1 (fun e => own_ne h hk ho e.symm)]; exact hk
/-- A block of another type lies beside what a call owns. -/
theorem ne_own {w : World} {base s n k : Nat} {e e' : TypeId} {cs : Array Value} {v : Value} {xs : List Value} (h : w.ownsRow base e s v n xs) (hk : Blk w k cs e') (hne : e' ≠ e) : k ∉ v.ownBlock.toList := by
  intro hm
  have : v.ownBlock = some k := by simpa using hm
  refine own_ne h hk (fun cs' hh => ?_) this
  simp only [Obj.cells.injEq] at hh
  exact hne hh.2.1
theorem ne_obj {w : World} {base s n k : Nat} {e : TypeId} {o : Obj} {v : Value} {xs : List Value} (h : w.ownsRow base e s v n xs) (hk : w.heap[k]? = some o) (ho : o.isCells = false) : k ∉ v.ownBlock.toList := by
  intro hm
  have : v.ownBlock = some k := by simpa using hm
  exact own_ne h hk (not_cells ho e) this
theorem own_ge {w : World} {base s n : Nat} {e : TypeId} {v : Value} {xs : List Value} (h : w.ownsRow base e s v n xs) : ∀ k ∈ v.ownBlock.toList, base ≤ k := by
  intro k hk
  have hk : v.ownBlock = some k := by simpa using hk
  obtain ⟨_, h⟩ := h
  rcases h with ⟨rfl, _⟩ | ⟨b, cap, cur, rfl, hb, _⟩
  · simp [Value.ownBlock] at hk
  · simp only [Value.ownBlock, Option.some.injEq] at hk; omega
end Go.Vc
