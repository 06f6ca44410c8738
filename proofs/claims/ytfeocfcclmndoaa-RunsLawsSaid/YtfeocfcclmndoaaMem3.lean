/- Rows of cells: a struct in a slice, a struct laid anew. -/
import Derived.Test.YtfeocfcclmndoaaMem2
namespace Go.Vc
open Go.RowKit
theorem flatten_get {s : Nat} : ∀ (rows : List (List Value)), (∀ r ∈ rows, r.length = s) → ∀ (k j : Nat) (r : List Value) (x : Value), rows[k]? = some r → r[j]? = some x → rows.flatten[k * s + j]? = some x
  | [], _, k, j, r, x, h, _ => by simp at h
  | q :: rows, hl, 0, j, r, x, h, hx => by
    simp only [List.getElem?_cons_zero, Option.some.injEq] at h
    subst h
    have : j < q.length := (List.getElem?_eq_some_iff.1 hx).1
    rw [List.flatten_cons, Nat.zero_mul, Nat.zero_add, List.getElem?_append_left this]; exact hx
  | q :: rows, hl, k + 1, j, r, x, h, hx => by
    have hq := hl q (by simp)
    have ih := flatten_get rows (fun r' h' => hl r' (by simp [h'])) k j r x (by simpa using h) hx
    rw [List.flatten_cons, Nat.add_mul, List.getElem?_append_right (by omega)]
    rw [← ih]; congr 1; omega
theorem SlN.row {w : World} {s n n' c : Nat} {a : Addr} {rows : List (List Value)} (h : SlN w s (.slice (some a) n c) n' rows.flatten) (hl : ∀ r ∈ rows, r.length = s) {k : Nat} {r : List Value} (hr : rows[k]? = some r) : cellsAt w (a.add (k * s)) s = some r := by
  refine cellsAt_of s _ r (hl r (List.mem_of_getElem? hr)) fun j x hx => ?_
  rw [addr_add_add]
  exact h.at (flatten_get rows hl k j r x hr hx)
/-- One cell of a row. -/
theorem SlN.rowCell {w : World} {s n n' c : Nat} {a : Addr} {rows : List (List Value)} (h : SlN w s (.slice (some a) n c) n' rows.flatten) (hl : ∀ r ∈ rows, r.length = s) {k j : Nat} {r : List Value} {x : Value} (hr : rows[k]? = some r) (hx : r[j]? = some x) : w.cell? ((a.add (k * s)).add j) = some x := by
  rw [addr_add_add]
  exact h.at (flatten_get rows hl k j r x hr hx)
theorem storeAll_new (w : World) (e : TypeId) : ∀ (xs : List Value) (done rest : List Value), rest.length = xs.length →
    storeAll (w.alloc (.cells (done ++ rest).toArray e)) ⟨w.heap.size, done.length, none⟩ xs = w.alloc (.cells (done ++ xs).toArray e)
  | [], done, rest, h => by
    have : rest = [] := List.eq_nil_of_length_eq_zero (by simpa using h)
    subst this; rfl
  | x :: xs, done, [], h => by simp at h
  | x :: xs, done, r :: rest, h => by
    have ih := storeAll_new w e xs (done ++ [x]) rest (by simpa using h)
    simp only [storeAll]
    have e1 : (w.alloc (.cells (done ++ r :: rest).toArray e)).setCell ⟨w.heap.size, done.length, none⟩ x = w.alloc (.cells (done ++ [x] ++ rest).toArray e) := by
      have hm : ∀ (o o' : Obj) (f : Obj → Obj), f o = o' → (w.heap.push o).modify w.heap.size f = w.heap.push o' := by
        intro o o' f hf
        apply Array.ext_getElem?
        intro i
        rw [Array.getElem?_modify, Array.getElem?_push, Array.getElem?_push]
        by_cases hi : i = w.heap.size
        · subst hi; simp [hf]
        · rw [if_neg (by omega), if_neg hi, if_neg hi]
      show ({ w with heap := (w.heap.push (.cells (done ++ r :: rest).toArray e)).modify w.heap.size _ } : World) = { w with heap := w.heap.push (.cells (done ++ [x] ++ rest).toArray e) }
      rw [hm _ (.cells (done ++ [x] ++ rest).toArray e) _ (by simp)]
    rw [e1, addr_add_eq]
    have e2 : (done ++ [x]).length = done.length + 1 := by simp
    rw [← e2, ih]
    simp
theorem canAll_new (w : World) (e : TypeId) (cs : Array Value) : ∀ (xs : List Value) (i : Nat), i + xs.length ≤ cs.size → canAll (w.alloc (.cells cs e)) ⟨w.heap.size, i, none⟩ xs
  | [], _, _ => trivial
  | x :: xs, i, h => by
    simp only [List.length_cons] at h
    refine ⟨?_, (Blk.new w cs e).frozen i, ?_⟩
    · rw [(Blk.new w cs e).cell i]
      exact ⟨_, Array.getElem?_eq_getElem (by omega)⟩
    · rw [addr_add_eq]; exact canAll_new w e cs xs (i + 1) (by omega)
/-- A struct laid anew, and filled. -/
theorem vStore_new {P : Program} {w : World} {K : Value → World → Prop} {t e : TypeId} {z cs : Array Value} {s : Nat} (hs : cs.size = s) (hz : z.size = s) (h1 : ∀ u ∈ cs.toList, u.oneCell' = true) (hk : K undef (w.alloc (.cells cs e))) :
    vStoreD P t (some s) (.pointer (some ⟨w.heap.size, 0, none⟩)) (.agg cs) K (w.alloc (.cells z e)) := by
  refine ⟨hs, h1, canAll_new w e z cs.toList 0 (by simp; omega), ?_⟩
  have := storeAll_new w e cs.toList [] z.toList (by simp; omega)
  simp only [List.nil_append, List.length_nil] at this
  show K undef (storeAll (w.alloc (.cells z e)) ⟨w.heap.size, 0, none⟩ cs.toList)
  have e1 : z.toList.toArray = z := by simp
  have e2 : cs.toList.toArray = cs := by simp
  rw [e1, e2] at this
  rw [this]; exact hk
section
variable {P : Program} {w : World} {Ns : NS} {rs : List Nat} {σ : Env} {ty : TypeId} {Kv : Value → Prop} {Kn : (Value → World → Prop) → Prop}
/-- A call that reads what hangs on the world. -/
theorem nR_call {g : FuncId} {args : Array Operand} {ts : Array TypeId} (hb : HasBody P g) (V' : Value → World → Prop) (hV' : Stb w V') (h : ∀ σ' w', Later w w' → psis Ns σ w' σ' rs → FnC P g (args.map (ev σ')) w' fun u w'' => V' u w'' ∧ Later w' w'') (hk : Kn V') :
    nR P (.call ⟨.value (.func g), args, ts⟩) ty rs Ns σ w Kv Kn := by
  refine .inr ⟨V', hV', fun σ' w' hl hp => ?_, hk⟩
  rw [exe_call (f := .func g) (g := g) (first := #[]) (captured := #[]) rfl rfl]
  have h1 := h σ' w' hl hp
  simp only [Array.empty_append, Array.append_empty]
  rw [hb]
  refine ⟨rfl, Calls.mono (hb.ret h1) ?_⟩
  rintro e w'' ⟨u, rfl, hu, hl'⟩
  exact ⟨u, rfl, hl', hu⟩
theorem nR_callv {g : FuncId} {args : Array Operand} {ts : Array TypeId} (hb : HasBody P g) (v : Value) (h : ∀ σ' w', Later w w' → psis Ns σ w' σ' rs → FnC P g (args.map (ev σ')) w' fun u w'' => u = v ∧ Later w' w'') (hk : Kv v) :
    nR P (.call ⟨.value (.func g), args, ts⟩) ty rs Ns σ w Kv Kn := by
  refine .inl ⟨v, fun σ' w' hl hp => ?_, hk⟩
  rw [exe_call (f := .func g) (g := g) (first := #[]) (captured := #[]) rfl rfl]
  have h1 := h σ' w' hl hp
  simp only [Array.empty_append, Array.append_empty]
  rw [hb]
  refine ⟨rfl, Calls.mono (hb.ret h1) ?_⟩
  rintro e w'' ⟨u, rfl, hu, hl'⟩
  exact ⟨u, rfl, hl', hu⟩
theorem nR_assign {t : Nat} {V : Value → World → Prop} (ht : t ∈ rs) (hf : findN t Ns = some V) (hV : Stb w V) (hk : Kn V) : nR P (.assign (.tmp t)) ty rs Ns σ w Kv Kn :=
  .inr ⟨V, hV, fun σ' _ _ hp => nUp_pure (v := σ' t) rfl (psis_V hp ht hf), hk⟩
theorem nR_move {t : Nat} {V : Value → World → Prop} (ht : t ∈ rs) (hf : findN t Ns = some V) (hV : Stb w V) (hk : Kn V) : nR P (.move (.tmp t)) ty rs Ns σ w Kv Kn :=
  .inr ⟨V, hV, fun σ' _ _ hp => nUp_pure (v := σ' t) rfl (psis_V hp ht hf), hk⟩
end
/-- What a slice that the call owns holds, in every later world. -/
theorem stb_own (w0 : World) (B : Nat) (e : TypeId) (l : List UInt8) : Stb w0 (fun v w => OwnB w B e v l) := fun _ _ _ _ hl h => h.later hl
end Go.Vc
