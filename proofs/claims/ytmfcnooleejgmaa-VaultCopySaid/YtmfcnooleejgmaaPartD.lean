/- Maps by texts: what the model's operations do to them, in plain lists of entries. -/
import Derived.Laws.IdiomMaps
import Derived.Maps.RangeRun
import Derived.Lib.ConvBytes
import Derived.Lib.AppendStr
import Derived.Laws.BytesArg
import Derived.Test.YtmfcnooleejgmaaChecked
import Derived.Test.YtmfcnooleejgmaaPartC
set_option linter.all false
section
namespace Go.Vc
open Go
/-- Maps by texts: entries. -/
abbrev Ent := ByteArray × Value × Nat
def mE (e : Ent) : MapEntry := { key := .string e.1, val := e.2.1, born := e.2.2 }
def mIdx (k : ByteArray) : List Ent → Nat → Option (Nat × Value)
  | [], _ => none
  | e :: l, i => if k == e.1 then some (i, e.2.1) else mIdx k l (i + 1)
theorem bytes_beq {a b : ByteArray} : (a == b) = true ↔ a = b := by
  constructor
  · intro h
    exact ByteArray.ext (eq_of_beq (show (a.data == b.data) = true from h))
  · rintro rfl
    exact beq_self_eq_true a.data
theorem modify_map {α β : Type} (g : α → β) (f : α → α) (f' : β → β) (h : ∀ x, f' (g x) = g (f x)) (l : List α) (j : Nat) : (l.map g).modify j f' = (l.modify j f).map g := by
  apply List.ext_getElem?
  intro i
  rw [List.getElem?_modify, List.getElem?_map, List.getElem?_map, List.getElem?_modify]
  cases l[i]? with
  | none => rfl
  | some x =>
    simp only [Option.map_some, Functor.map]
    split <;> simp [h]
theorem findNow_s (k : ByteArray) : ∀ (l : List Ent) (i : Nat), Instr.findNow .string (.string k) (l.map mE) i = some (mIdx k l i)
  | [], _ => rfl
  | e :: l, i => by
    simp only [List.map_cons, Instr.findNow, mE, Instr.sameNow, mIdx]
    by_cases h : (k == e.1) = true
    · simp [h]
    · have h' : (k == e.1) = false := by simpa using h
      simp only [h', Bool.false_eq_true, if_false]
      exact findNow_s k l (i + 1)
/-- A map lies in a block. -/
def MapB (w : World) (r : Nat) (l : List Ent) (c : Nat) : Prop := w.heap[r]? = some (.map (l.map mE).toArray c)
variable {P : Program} {w : World} {t kt et : TypeId} {r c : Nat} {l : List Ent}
theorem findKey_s (hk : P.underlying kt = some .string) (k : ByteArray) (l : List Ent) (w : World) : (Instr.findKey kt (.string k) (l.map mE)).run P w = .ok (mIdx k l 0) w := by
  simp [Instr.findKey, run_underlying hk, findNow_s, Result.andThen]
theorem checkKey_s (hk : P.underlying kt = some .string) (b : Bool) (k : ByteArray) (w : World) : (Instr.checkKey b 10000 kt (.string k)).run P w = .ok () w :=
  MapKept.run_checkKey hk (by first | exact ⟨_, rfl⟩ | simp [MapKept.IsKey]) b 9999
theorem stays_s (k : ByteArray) (w : World) : (Instr.keyThatStays (.string k) (.string k)).run P w = .ok (.string k) w := by
  have h : Instr.sameBits 10000 (.string k) (.string k) = true := by
    unfold Instr.sameBits
    exact bytes_beq.2 rfl
  unfold Instr.keyThatStays
  rw [h]
  simp
theorem run_lookup_s (ht : P.underlying t = some (.map kt et)) (hk : P.underlying kt = some .string) {z : Value} (hz : (zeroValue et).run P w = .ok z w) (hb : MapB w r l c) (k : ByteArray) (ok : Bool) :
    (Instr.lookup t (.map (some r)) (.string k) ok).run P w = .ok (match mIdx k l 0 with | some (_, v) => (if ok then .tuple #[v, .bool true] else v) | none => (if ok then .tuple #[z, .bool false] else z)) w := by
  have h1 := findKey_s hk k l w
  cases hm : mIdx k l 0 with
  | none => rw [hm] at h1; simp [Instr.lookup, run_underlying ht, MapKept.run_getObj_map hb, checkKey_s hk, h1, hz, Result.andThen]
  | some q => rw [hm] at h1; simp [Instr.lookup, run_underlying ht, MapKept.run_getObj_map hb, checkKey_s hk, h1, Result.andThen]
theorem run_makeMap (t : TypeId) : (Instr.makeMap t none).run P w = .ok (.map (some w.heap.size)) (w.alloc (.map #[] 0)) := by
  simp [Instr.makeMap, Result.andThen]
def mPut (k : ByteArray) (v : Value) (c : Nat) (l : List Ent) : List Ent := match mIdx k l 0 with
  | some (i, _) => l.modify i fun e => (k, v, e.2.2)
  | none => l ++ [(k, v, c)]
def mTick (k : ByteArray) (c : Nat) (l : List Ent) : Nat := match mIdx k l 0 with
  | some _ => c
  | none => c + 1
theorem mIdx_at {k : ByteArray} : ∀ {l : List Ent} {i j : Nat} {v : Value}, mIdx k l i = some (j, v) → ∃ n, i ≤ j ∧ ∃ h : j - i < l.length, l[j - i] = (k, v, n)
  | [], _, _, _, h => by simp [mIdx] at h
  | e :: l, i, j, v, h => by
    unfold mIdx at h
    split at h
    · rename_i hk
      simp only [Option.some.injEq, Prod.mk.injEq] at h
      obtain ⟨rfl, rfl⟩ := h
      have : k = e.1 := bytes_beq.1 hk
      exact ⟨e.2.2, Nat.le_refl _, by simp, by simp [this]⟩
    · obtain ⟨n, h1, h2, h3⟩ := mIdx_at h
      refine ⟨n, by omega, by simp only [List.length_cons]; omega, ?_⟩
      have e1 : j - i = (j - (i + 1)) + 1 := by omega
      simp only [e1, List.getElem_cons_succ]
      exact h3
def setB (w : World) (r : Nat) (o : Obj) : World := { w with heap := w.heap.setIfInBounds r o }
theorem run_update_s (ht : P.underlying t = some (.map kt et)) (hk : P.underlying kt = some .string) (hb : MapB w r l c) (k : ByteArray) (v : Value) :
    (Instr.mapUpdate t (.map (some r)) (.string k) v).run P w = .ok () (setB w r (.map ((mPut k v c l).map mE).toArray (mTick k c l))) := by
  have h1 := findKey_s hk k l w
  unfold mPut mTick
  cases hm : mIdx k l 0 with
  | none =>
    rw [hm] at h1
    simp [Instr.mapUpdate, run_underlying ht, MapKept.run_getObj_map hb, checkKey_s hk, h1, MapKept.run_setObj_map _ hb, Result.andThen, setB, mE]
  | some q =>
    obtain ⟨j, v0⟩ := q
    rw [hm] at h1
    obtain ⟨n, _, h2, h3⟩ := mIdx_at hm
    have h2' : j < l.length := h2
    have h3' : l[j] = (k, v0, n) := h3
    have hj : ((l.map mE).toArray)[j]? = some { key := .string k, val := v0, born := n } := by
      simp [h2', h3', mE]
    simp [Instr.mapUpdate, run_underlying ht, MapKept.run_getObj_map hb, checkKey_s hk, h1, h2', h3', mE, stays_s, MapKept.run_setObj_map _ hb, Result.andThen, setB]
    rw [modify_map mE (fun e => (k, v, e.2.2)) _ (fun _ => rfl)]
def mDel (k : ByteArray) (l : List Ent) : List Ent := match mIdx k l 0 with
  | some (i, _) => l.eraseIdx i
  | none => l
theorem eraseIdx_map {α β : Type} (g : α → β) : ∀ (l : List α) (j : Nat), (l.map g).eraseIdx j = (l.eraseIdx j).map g
  | [], _ => by simp
  | _ :: _, 0 => by simp
  | a :: l, j + 1 => by simp [eraseIdx_map g l j]
theorem run_delete_s {ty : TypeId} (ht : P.underlying t = some (.map kt et)) (hk : P.underlying kt = some .string) (hb : MapB w r l c) (k : ByteArray) (ts : Array TypeId) (hts : ts[0]? = some t) :
    (Builtin.delete_ ts ty #[.map (some r), .string k]).run P w = .ok (.tuple #[]) (setB w r (.map ((mDel k l).map mE).toArray c)) := by
  have h1 := findKey_s hk k l w
  unfold mDel
  cases hm : mIdx k l 0 with
  | none =>
    rw [hm] at h1
    simp [Builtin.delete_, hts, run_underlying ht, MapKept.run_getObj_map hb, checkKey_s hk, h1, MapKept.run_setObj_map _ hb, Result.andThen, setB]
  | some q =>
    obtain ⟨j, v0⟩ := q
    rw [hm] at h1
    obtain ⟨n, _, h2, h3⟩ := mIdx_at hm
    have h2' : j < l.length := h2
    simp [Builtin.delete_, hts, run_underlying ht, MapKept.run_getObj_map hb, checkKey_s hk, h1, MapKept.run_setObj_map _ hb, Result.andThen, setB]
    rw [← eraseIdx_map]
theorem run_next_s {ty : TypeId} {it since c0 : Nat} {seen : Array Nat} (hr : w.heap[it]? = some (.mapIter (some r) since seen c0)) (hb : MapB w r l c) (hold : ∀ e ∈ l, e.2.2 < since) (hsc : since ≤ c0) :
    ((∀ e ∈ l, seen.contains e.2.2 = true) ∧ (Instr.next (.pointer (some ⟨it, 0, none⟩)) false ty).run P w = .ok (.tuple #[.bool false]) w) ∨
    ∃ e ∈ l, seen.contains e.2.2 = false ∧ ∃ w1 : World, (w1 = w ∨ w1 = w.drew) ∧ (Instr.next (.pointer (some ⟨it, 0, none⟩)) false ty).run P w = .ok (.tuple #[.bool true, .string e.1, e.2.1]) (setB w1 it (.mapIter (some r) since (seen.push e.2.2) c)) := by
  rcases run_next_at (P := P) w ty it r since c0 seen _ c hr hb (by intro x hx; simp only [List.mem_map] at hx; obtain ⟨e, he, rfl⟩ := hx; exact hold e he) hsc with ⟨h1, h2⟩ | ⟨x, hx, w1, h1, h2⟩
  · left
    refine ⟨fun e he => ?_, h2⟩
    unfold leftOf at h1
    have h3 := Array.eq_empty_of_size_eq_zero h1
    rw [Array.filter_eq_empty_iff] at h3
    have := h3 (mE e) (by simp only [List.mem_toArray]; exact List.mem_map_of_mem he)
    simpa [mE] using this
  · right
    obtain ⟨h3, h4⟩ := mem_left hx
    simp only [List.mem_map] at h3
    obtain ⟨e, he, rfl⟩ := h3
    exact ⟨e, he, h4, w1, h1, h2⟩
end Go.Vc
end
section
namespace Go.Vc
open Go
section
variable {P : Program} {K : Value → World → Prop} {w : World} {σ : Env} {ty : TypeId}
def vLook (P : Program) (t : TypeId) (m k : Value) (ok : Bool) (K : Value → World → Prop) (w : World) : Prop := vcUp P K ((val (Instr.lookup t m k ok)).run P w)
def vUpd (P : Program) (t : TypeId) (m k x : Value) (K : Value → World → Prop) (w : World) : Prop := vcUp P K ((unt (Instr.mapUpdate t m k x)).run P w)
def vDel (P : Program) (ts : Array TypeId) (ty : TypeId) (xs : Array Value) (K : Value → World → Prop) (w : World) : Prop := vcUp P K ((val (Builtin.delete_ ts ty xs)).run P w)
def vRng (P : Program) (t : TypeId) (x : Value) (K : Value → World → Prop) (w : World) : Prop := vcUp P K ((val (Instr.range t x)).run P w)
def vNxt (P : Program) (it : Value) (s : Bool) (ty : TypeId) (K : Value → World → Prop) (w : World) : Prop := vcUp P K ((val (Instr.next it s ty)).run P w)
@[push_cast] theorem vcOp_lookup (t : TypeId) (x i : Operand) (ok : Bool) : vcOp P (.lookup t x i ok) ty σ w K = vLook P t (ev σ x) (ev σ i) ok K w := mk_eq rfl
@[push_cast] theorem vcOp_mapUpdate (t : TypeId) (m k x : Operand) : vcOp P (.mapUpdate t m k x) ty σ w K = vUpd P t (ev σ m) (ev σ k) (ev σ x) K w := mk_eq rfl
@[push_cast] theorem vcOp_range (t : TypeId) (x : Operand) : vcOp P (.range t x) ty σ w K = vRng P t (ev σ x) K w := mk_eq rfl
@[push_cast] theorem vcOp_next (x : Operand) (s : Bool) : vcOp P (.next x s) ty σ w K = vNxt P (ev σ x) s ty K w := mk_eq rfl
@[push_cast] theorem vcOp_delete (xs : Array Operand) (ts : Array TypeId) : vcOp P (.call { callee := .builtin .delete, args := xs, argTypes := ts }) ty σ w K = vDel P ts ty (xs.map (ev σ)) K w := mk_eq (by
  show vX P (.call { callee := .builtin .delete, args := xs, argTypes := ts }) ty σ w K = _
  unfold vX exe
  rw [run_maxmin .delete _ rfl]
  rfl)
@[push_cast] theorem vcOp_makeMap (t : TypeId) : vcOp P (.makeMap t none) ty σ w K = K (.map (some w.heap.size)) (w.alloc (.map #[] 0)) := mk_eq (by
  show vcUp P K ((val (Instr.makeMap t none)).run P w) = _
  rw [run_val_pure (run_makeMap t)]
  rfl)
variable {t kt et : TypeId} {r c : Nat} {l : List Ent}
def mGot (z : Value) (o : Option (Nat × Value)) (ok : Bool) : Value := match o with
  | some (_, v) => if ok then .tuple #[v, .bool true] else v
  | none => if ok then .tuple #[z, .bool false] else z
theorem vLook_of (ht : P.underlying t = some (.map kt et)) (hk : P.underlying kt = some .string) {z : Value} (hz : ∀ w, (zeroValue et).run P w = .ok z w) (hb : MapB w r l c) (k : ByteArray) (ok : Bool) (h : K (mGot z (mIdx k l 0) ok) w) : vLook P t (.map (some r)) (.string k) ok K w := by
  unfold vLook
  rw [run_val_pure (run_lookup_s ht hk (hz w) hb k ok)]
  exact h
theorem vUpd_of (ht : P.underlying t = some (.map kt et)) (hk : P.underlying kt = some .string) (hb : MapB w r l c) (k : ByteArray) (v : Value) (h : K undef (setB w r (.map ((mPut k v c l).map mE).toArray (mTick k c l)))) : vUpd P t (.map (some r)) (.string k) v K w := by
  unfold vUpd
  rw [run_unt (run_update_s ht hk hb k v)]
  exact h
theorem vDel_of {ts : Array TypeId} (hts : ts[0]? = some t) (ht : P.underlying t = some (.map kt et)) (hk : P.underlying kt = some .string) (hb : MapB w r l c) (k : ByteArray) (h : K (.tuple #[]) (setB w r (.map ((mDel k l).map mE).toArray c))) : vDel P ts ty #[.map (some r), .string k] K w := by
  unfold vDel
  rw [run_val_pure (run_delete_s ht hk hb k ts hts)]
  exact h
theorem vRng_of (ht : P.underlying t = some (.map kt et)) (hb : MapB w r l c) (h : K (.pointer (some ⟨w.heap.size, 0, none⟩)) (w.alloc (.mapIter (some r) c #[] c))) : vRng P t (.map (some r)) K w := by
  unfold vRng
  rw [run_val_pure (run_range_map w t kt et r _ c ht hb)]
  exact h
theorem vNxt_of {it since c0 : Nat} {seen : Array Nat} (hr : w.heap[it]? = some (.mapIter (some r) since seen c0)) (hb : MapB w r l c) (hold : ∀ e ∈ l, e.2.2 < since) (hsc : since ≤ c0)
    (h0 : (∀ e ∈ l, seen.contains e.2.2 = true) → K (.tuple #[.bool false]) w)
    (h1 : ∀ e ∈ l, seen.contains e.2.2 = false → ∀ w1 : World, (w1 = w ∨ w1 = w.drew) → K (.tuple #[.bool true, .string e.1, e.2.1]) (setB w1 it (.mapIter (some r) since (seen.push e.2.2) c))) : vNxt P (.pointer (some ⟨it, 0, none⟩)) false ty K w := by
  unfold vNxt
  rcases run_next_s (P := P) (ty := ty) hr hb hold hsc with ⟨a, b⟩ | ⟨e, he, a, w1, b, d⟩
  · rw [run_val_pure b]; exact h0 a
  · rw [run_val_pure d]; exact h1 e he a w1 b
end
end Go.Vc
namespace Go.Vc
section
variable {P : Program} {K : Value → World → Prop} {w : World} {σ : Env} {ty : TypeId}
def vEnt (P : Program) (it : Value) (K : Value → World → Prop) (w : World) : Prop := vcUp P K ((val (Instr.entry it)).run P w)
@[push_cast] theorem vcOp_entry (x : Operand) : vcOp P (.entry x) ty σ w K = vEnt P (ev σ x) K w := mk_eq rfl
theorem vEnt_of {r c since it : Nat} {l : List Ent} {seen : Array Nat} {e : Ent} (hr : w.heap[it]? = some (.mapIter (some r) since (seen.push e.2.2) c)) (hb : MapB w r l c) (he : e ∈ l) (hn : (l.map (·.2.2)).Nodup) (h : K (.tuple #[.string e.1, e.2.1]) w) : vEnt P (.pointer (some ⟨it, 0, none⟩)) K w := by
  unfold vEnt
  have h1 : (mE e) ∈ ((l.map mE).toArray).toList := by simp only [List.mem_map]; exact ⟨e, he, rfl⟩
  have h2 : ((((l.map mE).toArray).toList).map (·.born)).Nodup := by
    have : (((l.map mE).toArray).toList).map (·.born) = l.map (·.2.2) := by simp [mE]
    rw [this]; exact hn
  rw [run_val_pure (run_entry_at w it r since seen _ c (mE e) hr hb h1 h2)]
  exact h
end
/-- A map's block turned. -/
theorem chg_setB' {w : World} {r : Nat} (o : Obj) : (setB w r o).os = w.os ∧ (setB w r o).tape = w.tape ∧ (setB w r o).output = w.output ∧ (setB w r o).heap.size = w.heap.size ∧ ∀ k, k ≠ r → (setB w r o).heap[k]? = w.heap[k]? := by
  refine ⟨rfl, rfl, rfl, by simp [setB], fun k hk => ?_⟩
  simp [setB, Array.getElem?_setIfInBounds, Ne.symm hk]
theorem setB_at {w : World} {r : Nat} {o o' : Obj} (h : w.heap[r]? = some o') : (setB w r o).heap[r]? = some o := by
  have := (Array.getElem?_eq_some_iff.1 h).1
  simp [setB, Array.getElem?_setIfInBounds, this]
end Go.Vc
end
section
namespace Go.Vc
open Go.RowKit
/-! ### worlds that have only grown -/
theorem Later.size {w w' : World} (h : Later w w') : w.heap.size ≤ w'.heap.size := Below.size h
theorem Later.alloc {w w' : World} (h : Later w w') (o : Obj) : Later w (w'.alloc o) := Below.alloc h (Below.size h) o
theorem later_alloc (w : World) (o : Obj) : Later w (w.alloc o) := (Later.refl w).alloc o
theorem Later.setCell {w w' : World} (h : Later w w') {a : Addr} (ha : w.heap.size ≤ a.block) (v : Value) : Later w (w'.setCell a v) := Below.setCell h ha v
theorem Later.grown {w w1 w' : World} {row : Option Nat} (h : Later w w1) (hg : w1.grownBy w' row) (hr : ∀ k, row = some k → w.heap.size ≤ k) : Later w w' := Below.grown h hg (Below.size h) hr
theorem Later.below {w w' : World} {B : Nat} (h : Later w w') (hB : B ≤ w.heap.size) : Below B w w' := Below.mono h hB
theorem Later.frozen {w w' : World} (h : Later w w') {a : Addr} (ha : a.block < w.heap.size) : w'.frozen? a = w.frozen? a := Below.frozen h ha
theorem Later.heap {w w' : World} (h : Later w w') {b : Nat} (hb : b < w.heap.size) : w'.heap[b]? = w.heap[b]? := h.block b hb
/-! ### addresses -/
theorem addr_add_add (a : Addr) (m n : Nat) : (a.add m).add n = a.add (m + n) := by
  unfold Addr.add
  by_cases h1 : m = 0
  · subst h1; simp
  · by_cases h2 : n = 0
    · subst h2; simp [h1]
    · have : ¬ m + n = 0 := by omega
      simp [h1, h2, this, Nat.add_assoc]
theorem addr_add_block (a : Addr) (n : Nat) : (a.add n).block = a.block := by unfold Addr.add; split <;> rfl
theorem addr_add_eq (b o n : Nat) : (⟨b, o, none⟩ : Addr).add n = ⟨b, o + n, none⟩ := by unfold Addr.add; split <;> simp_all
theorem lt_of_cell {w : World} {a : Addr} {v : Value} (h : w.cell? a = some v) : a.block < w.heap.size := World.block_lt_of_cell? w a h
/-! ### slices that read as lists of cells: n elements of s cells each -/
def SlN (w : World) (s : Nat) (v : Value) (n : Nat) (xs : List Value) : Prop :=
  xs.length = n * s ∧ ((v = .slice none 0 0 ∧ n = 0) ∨ ∃ a c, v = .slice (some a) n c ∧ n ≤ c ∧ c ≤ maxLen ∧ ∀ i x, xs[i]? = some x → w.cell? (a.add i) = some x)
/-- Elements of one cell. -/
def Sl (w : World) (v : Value) (xs : List Value) : Prop := SlN w 1 v xs.length xs
theorem SlN.nil (w : World) (s : Nat) : SlN w s (.slice none 0 0) 0 [] := ⟨by simp, .inl ⟨rfl, rfl⟩⟩
theorem Sl.nil (w : World) : Sl w (.slice none 0 0) [] := SlN.nil w 1
theorem SlN.later {w w' : World} {s n : Nat} {v : Value} {xs : List Value} (h : SlN w s v n xs) (hl : Later w w') : SlN w' s v n xs := by
  obtain ⟨h0, h⟩ := h
  refine ⟨h0, ?_⟩
  rcases h with h | ⟨a, c, hv, h1, h2, h3⟩
  · exact .inl h
  · exact .inr ⟨a, c, hv, h1, h2, fun i x hx => hl.cell (h3 i x hx)⟩
theorem Sl.later {w w' : World} {v : Value} {xs : List Value} (h : Sl w v xs) (hl : Later w w') : Sl w' v xs := SlN.later h hl
/-- Opened: nil, or an address. -/
theorem SlN.open {w : World} {s n : Nat} {v : Value} {xs : List Value} (h : SlN w s v n xs) : ∃ o c, v = .slice o n c ∧ n ≤ c ∧ c ≤ maxLen ∧ xs.length = n * s ∧ (o = none → n = 0 ∧ c = 0) ∧ (∀ a, o = some a → ∀ i x, xs[i]? = some x → w.cell? (a.add i) = some x) := by
  obtain ⟨h0, h⟩ := h
  rcases h with ⟨rfl, rfl⟩ | ⟨a, c, rfl, h1, h2, h3⟩
  · exact ⟨none, 0, rfl, Nat.le_refl _, Nat.zero_le _, h0, fun _ => ⟨rfl, rfl⟩, by intro a ha; cases ha⟩
  · exact ⟨some a, c, rfl, h1, h2, h0, (fun h => by cases h), by intro a' ha; cases ha; exact h3⟩
theorem Sl.open {w : World} {v : Value} {xs : List Value} (h : Sl w v xs) : ∃ o c, v = .slice o xs.length c ∧ xs.length ≤ c ∧ c ≤ maxLen ∧ (o = none → xs = [] ∧ c = 0) ∧ (∀ a, o = some a → ∀ i x, xs[i]? = some x → w.cell? (a.add i) = some x) := by
  obtain ⟨o, c, hv, h1, h2, h3, h4, h5⟩ := SlN.open h
  exact ⟨o, c, hv, h1, h2, fun ho => ⟨List.eq_nil_of_length_eq_zero (h4 ho).1, (h4 ho).2⟩, h5⟩
theorem SlN.mk {w : World} {s : Nat} {o : Option Addr} {xs : List Value} {n c : Nat} (hn : xs.length = n * s) (h1 : n ≤ c) (h2 : c ≤ maxLen) (h0 : o = none → n = 0 ∧ c = 0) (h3 : ∀ a, o = some a → ∀ i x, xs[i]? = some x → w.cell? (a.add i) = some x) : SlN w s (.slice o n c) n xs := by
  refine ⟨hn, ?_⟩
  cases o with
  | none => obtain ⟨rfl, rfl⟩ := h0 rfl; exact .inl ⟨rfl, rfl⟩
  | some a => exact .inr ⟨a, c, rfl, h1, h2, h3 a rfl⟩
theorem SlN.len {w : World} {s : Nat} {a : Option Addr} {xs : List Value} {n n' c : Nat} (h : SlN w s (.slice a n c) n' xs) : n = n' ∧ n ≤ c ∧ c ≤ maxLen ∧ xs.length = n * s ∧ (a = none → n = 0 ∧ c = 0) := by
  obtain ⟨o, c', hv, h1, h2, h0, h3, _⟩ := h.open
  simp only [Value.slice.injEq] at hv
  obtain ⟨rfl, rfl, rfl⟩ := hv
  exact ⟨rfl, h1, h2, h0, h3⟩
theorem SlN.at {w : World} {s : Nat} {a : Addr} {xs : List Value} {n n' c : Nat} (h : SlN w s (.slice (some a) n c) n' xs) {i : Nat} {x : Value} (hx : xs[i]? = some x) : w.cell? (a.add i) = some x := by
  obtain ⟨o, c', hv, h1, h2, h0, _, h3⟩ := h.open
  simp only [Value.slice.injEq] at hv
  obtain ⟨rfl, rfl, rfl⟩ := hv
  exact h3 a rfl i x hx
/-- A part of a slice: what 'x[l:h:m]' gives. -/
theorem SlN.sub {w : World} {s : Nat} {a : Option Addr} {xs : List Value} {n n' c : Nat} (h : SlN w s (.slice a n c) n' xs) {l k m : Nat} (hl : l ≤ k) (hk : k ≤ n) (hm : k ≤ m) (hc : m ≤ c) :
    SlN w s (.slice (if m = l then a else a.map (·.add (l * s))) (k - l) (m - l)) (k - l) ((xs.take (k * s)).drop (l * s)) := by
  obtain ⟨rfl, h1, h2, h3, h0⟩ := h.len
  have hks : k * s ≤ n * s := Nat.mul_le_mul_right _ hk
  have hls : l * s ≤ k * s := Nat.mul_le_mul_right _ hl
  refine SlN.mk (by simp [Nat.sub_mul]; omega) (by omega) (by omega) ?_ ?_
  · intro ho
    have ha : a = none := by
      split at ho
      · exact ho
      · cases a with | none => rfl | some _ => cases ho
    obtain ⟨rfl, rfl⟩ := h0 ha
    omega
  · intro b hb i x hx
    rw [List.getElem?_drop, List.getElem?_take] at hx
    split at hx
    · rename_i hlt
      split at hb
      · rename_i e
        have : k = l := by omega
        subst this; omega
      · cases a with
        | none => cases hb
        | some a =>
          simp only [Option.map_some, Option.some.injEq] at hb
          subst hb
          rw [addr_add_add]
          exact h.at hx
    · cases hx
theorem SlN.part {w : World} {s : Nat} {a : Option Addr} {xs : List Value} {n n' c : Nat} (h : SlN w s (.slice a n c) n' xs) {l k m : Int} (h0 : 0 ≤ l) (hl : l ≤ k) (hk : k ≤ n) (hm : k ≤ m) (hc : m ≤ c) :
    SlN w s (.slice (slAddr a l m s) (k - l).toNat (m - l).toNat) (k - l).toNat ((xs.take (k.toNat * s)).drop (l.toNat * s)) := by
  have := h.sub (l := l.toNat) (k := k.toNat) (m := m.toNat) (by omega) (by omega) (by omega) (by omega)
  have e1 : (m.toNat = l.toNat) = (m = l) := by rw [eq_iff_iff]; omega
  have e2 : (k - l).toNat = k.toNat - l.toNat := by omega
  have e3 : (m - l).toNat = m.toNat - l.toNat := by omega
  unfold slAddr
  rw [e2, e3]
  simpa only [e1] using this
theorem Sl.len {w : World} {a : Option Addr} {xs : List Value} {n c : Nat} (h : Sl w (.slice a n c) xs) : n = xs.length ∧ n ≤ c ∧ c ≤ maxLen ∧ (a = none → xs = [] ∧ c = 0) := by
  obtain ⟨h1, h2, h3, h4, h5⟩ := SlN.len h
  refine ⟨h1, h2, h3, fun ha => ⟨List.eq_nil_of_length_eq_zero ?_, (h5 ha).2⟩⟩
  rw [h4, (h5 ha).1]
theorem Sl.at {w : World} {a : Addr} {xs : List Value} {n c : Nat} (h : Sl w (.slice (some a) n c) xs) {i : Nat} {x : Value} (hx : xs[i]? = some x) : w.cell? (a.add i) = some x := SlN.at h hx
theorem Sl.sub {w : World} {a : Option Addr} {xs : List Value} {n c : Nat} (h : Sl w (.slice a n c) xs) {l k m : Nat} (hl : l ≤ k) (hk : k ≤ n) (hm : k ≤ m) (hc : m ≤ c) :
    Sl w (.slice (if m = l then a else a.map (·.add l)) (k - l) (m - l)) ((xs.take k).drop l) := by
  have hn := h.len.1
  have := SlN.sub h hl hk hm hc
  unfold Sl
  have e : ((xs.take k).drop l).length = k - l := by simp; omega
  rw [e]
  simpa using this
theorem Sl.part {w : World} {a : Option Addr} {xs : List Value} {n c : Nat} (h : Sl w (.slice a n c) xs) {l k m : Int} (h0 : 0 ≤ l) (hl : l ≤ k) (hk : k ≤ n) (hm : k ≤ m) (hc : m ≤ c) :
    Sl w (.slice (slAddr a l m 1) (k - l).toNat (m - l).toNat) ((xs.take k.toNat).drop l.toNat) := by
  have hn := h.len.1
  have := SlN.part h h0 hl hk hm hc
  unfold Sl
  have e : ((xs.take k.toNat).drop l.toNat).length = (k - l).toNat := by simp; omega
  rw [e]
  simpa using this
/-- What a call owns reads as a slice. -/
theorem SlN.of_own {w : World} {base s : Nat} {e : TypeId} {v : Value} {n : Nat} {xs : List Value} (h : w.ownsRow base e s v n xs) : SlN w s v n xs := by
  obtain ⟨hl, h⟩ := h
  refine ⟨hl, ?_⟩
  rcases h with ⟨rfl, rfl⟩ | ⟨g, cap, cur, rfl, hb, hh, h1, h2, h3, h4⟩
  · exact .inl ⟨rfl, rfl⟩
  · refine .inr ⟨⟨g, 0, none⟩, cap, rfl, h1, h2, fun i x hx => ?_⟩
    rw [addr_add_eq, Nat.zero_add]
    have hi : i < n * s := by have := (List.getElem?_eq_some_iff.1 hx).1; omega
    simp only [World.cell?, hh]
    rw [← h4, List.getElem?_take, if_pos hi] at hx
    simpa using hx
theorem Sl.of_own {w : World} {base : Nat} {e : TypeId} {v : Value} {n : Nat} {xs : List Value} (h : w.ownsRow base e 1 v n xs) : Sl w v xs := by
  have := SlN.of_own h
  have e : n = xs.length := by have := h.1; omega
  subst e; exact this
theorem own_n {w : World} {base : Nat} {e : TypeId} {v : Value} {n : Nat} {xs : List Value} (h : w.ownsRow base e 1 v n xs) : n = xs.length := by have := h.1; omega
/-- Nothing of what a later world has left alone is lost to an owner. -/
theorem own_later {w w' : World} {base s : Nat} {e : TypeId} {v : Value} {n : Nat} {xs : List Value} (h : w.ownsRow base e s v n xs) (hl : Later w w') : w'.ownsRow base e s v n xs := by
  obtain ⟨h0, h⟩ := h
  refine ⟨h0, ?_⟩
  rcases h with h | ⟨g, cap, cur, hv, hb, hh, h⟩
  · exact .inl h
  · exact .inr ⟨g, cap, cur, hv, hb, (hl.heap (Array.getElem?_eq_some_iff.1 hh).1).trans hh, h⟩
theorem own_base {w : World} {base base' s : Nat} {e : TypeId} {v : Value} {n : Nat} {xs : List Value} (h : w.ownsRow base e s v n xs) (hb : base' ≤ base) : w.ownsRow base' e s v n xs := by
  obtain ⟨h0, h⟩ := h
  refine ⟨h0, ?_⟩
  rcases h with h | ⟨g, cap, cur, hv, hb', hh⟩
  · exact .inl h
  · exact .inr ⟨g, cap, cur, hv, Nat.le_trans hb hb', hh⟩
/-! ### append -/
theorem heap_new_drew (w : World) (o : Obj) : (w.drew.alloc o).heap[w.heap.size]? = some o := by
  show (w.heap.push o)[w.heap.size]? = _
  simp
theorem heap_old_drew (w : World) (o : Obj) (k : Nat) (hk : k < w.heap.size) : (w.drew.alloc o).heap[k]? = w.heap[k]? := by
  show (w.heap.push o)[k]? = _
  rw [Array.getElem?_push, if_neg (by omega)]
section
variable {P : Program} {w : World} {K : Value → World → Prop} {t e ty : TypeId} {z : Value} {s b : Nat}
theorem run_append_nil_src (ht : P.underlying t = some (.slice e)) (hi : (P.info? e).map (fun i => (i.zero, i.size, i.bytes)) = some (some z, s, b)) (o : Option Addr) (n c : Nat) (hn : n ≤ c) (ho : o = none → n = 0) :
    (Builtin.append_ #[t, t] ty #[.slice o n c, .slice none 0 0]).run P w = .ok (.slice o n c) w := by
  obtain ⟨i, hi1, _, _, _⟩ := info_parts hi
  cases o with
  | none => simp [Builtin.append_, run_underlying ht, sizeOf, typeInfo, hi1, Builtin.lenOf, Builtin.firstCells, hn]
  | some a => simp [Builtin.append_, run_underlying ht, sizeOf, typeInfo, hi1, Builtin.lenOf, Builtin.firstCells, hn, storeCells]
/-- Onto a slice of the call's own. -/
theorem vAppend_own (ht : P.underlying t = some (.slice e)) (hi : (P.info? e).map (fun i => (i.zero, i.size, i.bytes)) = some (some z, s, b)) (hzs : z.cells.size = s) (hsz : 0 < s)
    {base : Nat} {v x : Value} {n m : Nat} {xs news : List Value} (hown : w.ownsRow base e s v n xs) (hx : SlN w s x m news) (h1 : ∀ u ∈ news, u.oneCell' = true) (h63 : n + m ≤ maxLen) (hb : (n + m) * b ≤ 140737488355328) (hbase : base ≤ w.heap.size)
    (hK : ∀ v' w', w'.ownsRow base e s v' (n + m) (xs ++ news) → w.grownBy w' v.ownBlock → (v' = .slice none 0 0 ↔ v = .slice none 0 0 ∧ m = 0) → K v' w') : vAppend P #[t, t] ty #[v, x] K w := by
  obtain ⟨i, hi1, hz, hsi, hbi⟩ := info_parts hi
  unfold vAppend
  obtain ⟨hl, hx⟩ := hx
  rcases hx with ⟨rfl, rfl⟩ | ⟨a, c, rfl, hc1, hc2, hc3⟩
  · have hnews : news = [] := List.eq_nil_of_length_eq_zero (by simpa using hl)
    subst hnews
    have hsl := SlN.of_own hown
    obtain ⟨o, c, rfl, h1, h2, h3, h4, _⟩ := hsl.open
    rw [run_val_pure (run_append_nil_src ht hi o n c h1 (fun ho => (h4 ho).1))]
    refine hK _ _ (by simpa using hown) ⟨rfl, rfl, rfl, Nat.le_refl _, fun _ _ _ => rfl⟩ ?_
    constructor
    · intro h; exact ⟨h, rfl⟩
    · intro h; exact h.1
  · obtain ⟨v', w', hr, h2, h3, h4⟩ := run_append_own (P := P) w base t ty e i z s b ht hi1 hz hsi hbi hzs hsz v n xs hown a m c news hl hc3 h1 h63 hb hbase
    rw [run_val_pure hr]
    exact hK _ _ h2 h3 h4
end
theorem heap_new (w : World) (o : Obj) : (w.alloc o).heap[w.heap.size]? = some o := by
  show (w.heap.push o)[w.heap.size]? = _
  simp
/-- A literal's new block reads as the literal. -/
theorem SlN.lit (w : World) (l : List Value) (e : TypeId) (s n : Nat) (h : l.length = n * s) (hn : n ≤ maxLen) : SlN (w.alloc (.cells l.toArray e)) s (.slice (some ⟨w.heap.size, 0, none⟩) n n) n l := by
  refine SlN.mk h (Nat.le_refl _) hn (fun h => by cases h) ?_
  intro a ha i x hx
  simp only [Option.some.injEq] at ha
  subst ha
  rw [addr_add_eq, Nat.zero_add]
  have : (w.alloc (.cells l.toArray e)).heap[w.heap.size]? = some (.cells l.toArray e) := heap_new w _
  simp only [World.cell?, this]
  simpa using hx
theorem Sl.lit (w : World) (l : List Value) (e : TypeId) (hn : l.length ≤ maxLen) : Sl (w.alloc (.cells l.toArray e)) (.slice (some ⟨w.heap.size, 0, none⟩) l.length l.length) l := SlN.lit w l e 1 l.length (by simp) hn
theorem Sl.one (w : World) (x : Value) (e : TypeId) : Sl (w.alloc (.cells #[x] e)) (.slice (some ⟨w.heap.size, 0, none⟩) 1 1) [x] := Sl.lit w [x] e (by unfold maxLen; simp)
theorem own_nil (w : World) (base : Nat) (e : TypeId) (s : Nat) : w.ownsRow base e s (.slice none 0 0) 0 [] := World.ownsRow_nil w base e s
theorem own_alloc {w : World} {base s : Nat} {e : TypeId} {v : Value} {n : Nat} {xs : List Value} (h : w.ownsRow base e s v n xs) (o : Obj) : (w.alloc o).ownsRow base e s v n xs := World.ownsRow.alloc h o
/-- Behind an append onto a slice of the call's own: nothing that lay below has turned. -/
theorem Later.appended {w w2 w' : World} {base s n : Nat} {e : TypeId} {v : Value} {xs : List Value} (hl : Later w w2) (hown : w2.ownsRow base e s v n xs) (hb : w.heap.size ≤ base) (hg : w2.grownBy w' v.ownBlock) : Later w w' :=
  hl.grown hg fun k hk => by have := (World.ownsRow.lt hown) k hk; omega
/-! ### bytes and texts -/
/-- A byte. -/
def u8v (c : UInt8) : Value := .int .u8 c.toNat
theorem u8vs_one (l : List UInt8) : ∀ u ∈ l.map u8v, u.oneCell' = true := by
  intro u hu
  obtain ⟨c, _, rfl⟩ := List.mem_map.1 hu
  rfl
/-- The text of bytes. -/
def strOf (l : List UInt8) : ByteArray := ⟨l.toArray⟩
theorem strOf_data (s : ByteArray) : strOf s.data.toList = s := by cases s; rfl
section
variable {P : Program} {w : World} {K : Value → World → Prop}
theorem cellsAt_of (n : Nat) : ∀ (a : Addr) (xs : List Value), xs.length = n → (∀ i x, xs[i]? = some x → w.cell? (a.add i) = some x) → cellsAt w a n = some xs := by
  induction n with
  | zero => intro a xs h _; simp [cellsAt, List.eq_nil_of_length_eq_zero h]
  | succ n ih =>
    intro a xs h hc
    cases xs with
    | nil => simp at h
    | cons x xs =>
      have h0 := hc 0 x rfl
      rw [addr_add_zero] at h0
      simp only [cellsAt, h0]
      rw [ih (a.add 1) xs (by simpa using h) (fun i y hy => by
        rw [addr_add_add, Nat.add_comm 1 i]; exact hc (i + 1) y (by simpa using hy))]
theorem foldl_push (l : List UInt8) : ∀ s : ByteArray, (l.map fun c => ((c.toNat : Nat) : Int)).foldl (fun r n => r.push (UInt8.ofNat n.toNat)) s = s ++ strOf l := by
  induction l with
  | nil => intro s; simp [strOf]; apply ByteArray.ext; simp
  | cons c l ih =>
    intro s
    simp only [List.map_cons, List.foldl_cons, Int.toNat_natCast, UInt8.ofNat_toNat]
    rw [ih]
    apply ByteArray.ext
    simp [strOf, ByteArray.data_append]
theorem run_conv_bytes {s d e : TypeId} (hs : P.underlying s = some (.slice e)) (hd : P.underlying d = some .string) (he : P.underlying e = some (.int .u8)) {v : Value} {l : List UInt8} (h : Sl w v (l.map u8v)) :
    (convert s d v).run P w = .ok (.string (strOf l)) w := by
  obtain ⟨o, c, rfl, h1, h2, h3, h4⟩ := h.open
  rw [run_convert_bytes_string w s d e o _ c hs he hd]
  cases o with
  | none =>
    obtain ⟨h5, _⟩ := h3 rfl
    have : l = [] := by simpa using h5
    subst this
    rfl
  | some a =>
    have hc : (loadCells a (l.map u8v).length).run P w = .ok ((l.map fun c => ((c.toNat : Nat) : Int)).map (Value.int .u8)).toArray w := by
      rw [run_loadCells' (cs := l.map u8v) (cellsAt_of _ a _ rfl (h4 a rfl))]
      simp [u8v, Function.comp_def]
    rw [run_bytesToString w a _ c _ hc, foldl_push]
    have : ByteArray.empty ++ strOf l = strOf l := by apply ByteArray.ext; simp [strOf, ByteArray.data_append]
    rw [this]
theorem vConv_bytes {s d e : TypeId} (hs : P.underlying s = some (.slice e)) (hd : P.underlying d = some .string) (he : P.underlying e = some (.int .u8)) {o : Option Addr} {n c : Nat} {l : List UInt8} (h : Sl w (.slice o n c) (l.map u8v)) (hk : K (.string (strOf l)) w) :
    vConvD P s d (some (.slice e)) (some .string) (.slice o n c) K w := by
  show vcUp P K ((val (convert s d (.slice o n c))).run P w)
  rw [run_val_pure (run_conv_bytes hs hd he h)]; exact hk
theorem qConv_bytes {s d e ty : TypeId} {x : Operand} {σ : Env} {K : Value → Prop} (hs : P.underlying s = some (.slice e)) (hd : P.underlying d = some .string) (he : P.underlying e = some (.int .u8)) {o : Option Addr} {n c : Nat} {l : List UInt8} (hx : ev σ x = .slice o n c) (h : Sl w (.slice o n c) (l.map u8v)) (hk : K (.string (strOf l))) :
    qConv P s d x ty σ (some (.slice e)) (some .string) (.slice o n c) K w := by
  unfold qConv
  refine ⟨.string (strOf l), fun w' hl => ?_, hk⟩
  have : exe P (.convert s d x) ty σ w' = .ok (.value (.string (strOf l))) w' := by
    unfold exe; simp only [execOp]
    rw [hx]; exact run_val_pure (run_conv_bytes hs hd he (h.later hl))
  rw [this]; exact ⟨rfl, rfl⟩
end
/-- A slice that a call owns, as bytes. -/
def OwnB (w : World) (B : Nat) (e : TypeId) (v : Value) (l : List UInt8) : Prop := w.ownsRow B e 1 v l.length (l.map u8v)
theorem OwnB.sl {w : World} {B : Nat} {e : TypeId} {v : Value} {l : List UInt8} (h : OwnB w B e v l) : Sl w v (l.map u8v) := Sl.of_own h
theorem OwnB.later {w w' : World} {B : Nat} {e : TypeId} {v : Value} {l : List UInt8} (h : OwnB w B e v l) (hl : Later w w') : OwnB w' B e v l := own_later h hl
theorem OwnB.base {w : World} {B B' : Nat} {e : TypeId} {v : Value} {l : List UInt8} (h : OwnB w B e v l) (hb : B' ≤ B) : OwnB w B' e v l := own_base h hb
theorem OwnB.slice {w : World} {B : Nat} {e : TypeId} {v : Value} {l : List UInt8} (h : OwnB w B e v l) : ∃ o c, v = .slice o l.length c := by
  obtain ⟨o, c, hv, _⟩ := h.sl.open
  exact ⟨o, c, by simpa using hv⟩
theorem Sl.slice {w : World} {v : Value} {l : List Value} (h : Sl w v l) : ∃ o c, v = .slice o l.length c := by
  obtain ⟨o, c, hv, _⟩ := h.open
  exact ⟨o, c, hv⟩
end Go.Vc
end
section
namespace Go.Vc
open Go.RowKit
/-- A block's cells, none frozen. -/
def Blk (w : World) (k : Nat) (cs : Array Value) (e : TypeId) : Prop := w.heap[k]? = some (.cells cs e (0, 0))
theorem Blk.lt {w : World} {k : Nat} {cs : Array Value} {e : TypeId} (h : Blk w k cs e) : k < w.heap.size := by
  unfold Blk at h
  by_cases hk : k < w.heap.size
  · exact hk
  · rw [Array.getElem?_eq_none (by omega)] at h; cases h
theorem Blk.cell {w : World} {k : Nat} {cs : Array Value} {e : TypeId} (h : Blk w k cs e) (i : Nat) : w.cell? ⟨k, i, none⟩ = cs[i]? := by
  unfold Blk at h
  simp [World.cell?, h]
theorem Blk.frozen {w : World} {k : Nat} {cs : Array Value} {e : TypeId} (h : Blk w k cs e) (i : Nat) : w.frozen? ⟨k, i, none⟩ = false := by
  unfold Blk at h
  simp [World.frozen?, h]
theorem Blk.set {w : World} {k : Nat} {cs : Array Value} {e : TypeId} (h : Blk w k cs e) (i : Nat) (v : Value) : Blk (w.setCell ⟨k, i, none⟩ v) k (cs.setIfInBounds i v) e := by
  unfold Blk at h ⊢
  simp [World.setCell, Array.getElem?_modify, h]
theorem Blk.new (w : World) (cs : Array Value) (e : TypeId) : Blk (w.alloc (.cells cs e)) w.heap.size cs e := heap_new w _
theorem heap_alloc {w : World} {k : Nat} (h : k < w.heap.size) (o : Obj) : (w.alloc o).heap[k]? = w.heap[k]? := by
  show (w.heap.push o)[k]? = _
  rw [Array.getElem?_push, if_neg (by omega)]
theorem Blk.alloc {w : World} {k : Nat} {cs : Array Value} {e : TypeId} (h : Blk w k cs e) (o : Obj) : Blk (w.alloc o) k cs e := by
  have := heap_alloc h.lt o
  unfold Blk at h ⊢
  rw [this, h]
/-- Behind w, but for the blocks of ks. -/
structure Chg (w w' : World) (ks : List Nat) : Prop where
  os : w'.os = w.os
  tape : w'.tape = w.tape
  output : w'.output = w.output
  size : w.heap.size ≤ w'.heap.size
  block : ∀ k, k < w.heap.size → k ∉ ks → w'.heap[k]? = w.heap[k]?
theorem Chg.refl (w : World) (ks : List Nat) : Chg w w ks := ⟨rfl, rfl, rfl, Nat.le_refl _, fun _ _ _ => rfl⟩
theorem Chg.trans {a b c : World} {ks : List Nat} (h : Chg a b ks) (g : Chg b c ks) : Chg a c ks :=
  ⟨g.os.trans h.os, g.tape.trans h.tape, g.output.trans h.output, Nat.le_trans h.size g.size, fun k hk hn => (g.block k (Nat.lt_of_lt_of_le hk h.size) hn).trans (h.block k hk hn)⟩
theorem Chg.mono {a b : World} {ks js : List Nat} (h : Chg a b ks) (hs : ∀ k ∈ ks, k ∈ js) : Chg a b js :=
  ⟨h.os, h.tape, h.output, h.size, fun k hk hn => h.block k hk fun hm => hn (hs k hm)⟩
theorem Chg.of_later {a b : World} {ks : List Nat} (h : Later a b) : Chg a b ks := ⟨h.os, h.tape, h.output, h.size, fun k hk _ => h.block k hk⟩
theorem Chg.later {a b c : World} {ks : List Nat} (h : Later a b) (g : Chg b c ks) (hk : ∀ k ∈ ks, a.heap.size ≤ k) : Later a c :=
  ⟨g.os.trans h.os, g.tape.trans h.tape, g.output.trans h.output, Nat.le_trans h.size g.size, fun k hka => (g.block k (Nat.lt_of_lt_of_le hka h.size) fun hm => by have := hk k hm; omega).trans (h.block k hka)⟩
theorem Chg.alloc {a b : World} {ks : List Nat} (h : Chg a b ks) (o : Obj) : Chg a (b.alloc o) ks := h.trans (Chg.of_later (later_alloc _ _))
theorem chg_setCell (w : World) {k i : Nat} {ks : List Nat} (hk : k ∈ ks) (v : Value) : Chg w (w.setCell ⟨k, i, none⟩ v) ks :=
  ⟨rfl, rfl, rfl, by simp [World.setCell], fun j _ hn => by
    have : k ≠ j := fun e => hn (e ▸ hk)
    simp [World.setCell, Array.getElem?_modify, this]⟩
theorem Chg.set {a b : World} {ks : List Nat} (h : Chg a b ks) {k i : Nat} (hk : k ∈ ks) (v : Value) : Chg a (b.setCell ⟨k, i, none⟩ v) ks := h.trans (chg_setCell b hk v)
theorem Blk.chg {w w' : World} {ks : List Nat} {k : Nat} {cs : Array Value} {e : TypeId} (h : Blk w k cs e) (g : Chg w w' ks) (hk : k ∉ ks) : Blk w' k cs e := by
  have := g.block k h.lt hk
  unfold Blk at h ⊢
  rw [this, h]
/-- The block that a slice lies in, if it has an element. -/
def inB (k : Nat) : Value → Prop
  | .slice (some a) n _ => n = 0 ∨ a.block = k
  | _ => True
theorem SlN.chg {w w' : World} {s n : Nat} {v : Value} {xs : List Value} {ks : List Nat} {k : Nat} (h : SlN w s v n xs) (g : Chg w w' ks) (hk : k ∉ ks) (hv : inB k v) : SlN w' s v n xs := by
  obtain ⟨o, c, rfl, h1, h2, h3, h4, h5⟩ := h.open
  refine SlN.mk h3 h1 h2 h4 fun a ha i x hx => ?_
  have hc := h5 a ha i x hx
  have hlt := lt_of_cell hc
  rw [addr_add_block] at hlt
  subst ha
  have hb : a.block = k := by
    rcases hv with h0 | h
    · subst h0
      simp only [Nat.zero_mul] at h3
      rw [List.eq_nil_of_length_eq_zero h3] at hx; cases hx
    · exact h
  have e := g.block a.block hlt (hb ▸ hk)
  rw [← addr_add_block a i] at e
  unfold World.cell? at hc ⊢
  rw [e]; exact hc
theorem Sl.chg {w w' : World} {v : Value} {xs : List Value} {ks : List Nat} {k : Nat} (h : Sl w v xs) (g : Chg w w' ks) (hk : k ∉ ks) (hv : inB k v) : Sl w' v xs := SlN.chg h g hk hv
/-- The block of a slice that reads: some block below the heap's size, or no matter which. -/
theorem inB_lt {w : World} {v : Value} {xs : List Value} (h : Sl w v xs) : (∀ j, inB j v) ∨ ∃ k, k < w.heap.size ∧ inB k v := by
  obtain ⟨o, c, rfl, h1, h2, h3, h4⟩ := h.open
  cases o with
  | none => exact .inl fun j => trivial
  | some a =>
    cases xs with
    | nil => exact .inl fun j => .inl rfl
    | cons x xs =>
      have := lt_of_cell (h4 a rfl 0 x rfl)
      rw [addr_add_block] at this
      exact .inr ⟨a.block, this, .inr rfl⟩
/-- A literal's block is the call's own. -/
theorem own_lit (w : World) (l : List Value) (e : TypeId) (s n : Nat) (h : l.length = n * s) (hn : n ≤ maxLen) {base : Nat} (hb : base ≤ w.heap.size) : (w.alloc (.cells l.toArray e)).ownsRow base e s (.slice (some ⟨w.heap.size, 0, none⟩) n n) n l := by
  refine ⟨h, .inr ⟨w.heap.size, n, l.toArray, rfl, hb, heap_new w _, Nat.le_refl _, hn, by simpa using h, ?_⟩⟩
  rw [← h]; simp
/-- The first k. -/
theorem Sl.pre {w : World} {o : Option Addr} {n c : Nat} {xs : List Value} (h : Sl w (.slice o n c) xs) {k : Nat} (hk : k ≤ n) : Sl w (.slice o k c) (xs.take k) := by
  obtain ⟨hn, hc, hm, _⟩ := h.len
  have hs := h.part (l := 0) (k := (k : Int)) (m := (c : Int)) (by omega) (by omega) (by omega) (by omega) (by omega)
  simp only [Int.sub_zero, Int.toNat_zero, List.drop_zero, Int.toNat_natCast] at hs
  unfold slAddr at hs
  split at hs
  · exact hs
  · cases o with
    | none => exact hs
    | some a => simpa [addr_add_zero] using hs
end Go.Vc
end
section
namespace Go.Proofs.Ytmfcnooleejgmaa
open Go.Vc
theorem mixed : Try.prog.follows .mixedOrders = true := by kernel_rfl
@[push_cast] theorem sz1 : szOf Try.prog 1 = some 1 := by kernel_rfl
theorem ti1 : (Try.prog.info? 1).map (fun i => (i.zero, i.size, i.bytes)) = some (some .nilFunc, 1, 8) := by kernel_rfl
@[push_cast] theorem al1 (K : Value → World → Prop) (w : World) : vAlloc Try.prog 1 K w = K (.pointer (some ⟨w.heap.size, 0, none⟩)) (w.alloc (.cells #[.nilFunc] 1)) := vAlloc_ok ti1 K w
@[push_cast] theorem one1 : oneD (Try.prog.underlying 1) = true := by kernel_rfl
@[push_cast] theorem sz2 : szOf Try.prog 2 = some 1 := by kernel_rfl
theorem ti2 : (Try.prog.info? 2).map (fun i => (i.zero, i.size, i.bytes)) = some (some (.int .i64 0), 1, 8) := by kernel_rfl
@[push_cast] theorem al2 (K : Value → World → Prop) (w : World) : vAlloc Try.prog 2 K w = K (.pointer (some ⟨w.heap.size, 0, none⟩)) (w.alloc (.cells #[(.int .i64 0)] 2)) := vAlloc_ok ti2 K w
attribute [push_cast] Try.underlying2
@[push_cast] theorem sz3 : szOf Try.prog 3 = some 1 := by kernel_rfl
theorem ti3 : (Try.prog.info? 3).map (fun i => (i.zero, i.size, i.bytes)) = some (some (.int .i64 0), 1, 8) := by kernel_rfl
@[push_cast] theorem al3 (K : Value → World → Prop) (w : World) : vAlloc Try.prog 3 K w = K (.pointer (some ⟨w.heap.size, 0, none⟩)) (w.alloc (.cells #[(.int .i64 0)] 3)) := vAlloc_ok ti3 K w
attribute [push_cast] Try.underlying3
@[push_cast] theorem sz4 : szOf Try.prog 4 = some 1 := by kernel_rfl
theorem ti4 : (Try.prog.info? 4).map (fun i => (i.zero, i.size, i.bytes)) = some (some (.bool false), 1, 1) := by kernel_rfl
@[push_cast] theorem al4 (K : Value → World → Prop) (w : World) : vAlloc Try.prog 4 K w = K (.pointer (some ⟨w.heap.size, 0, none⟩)) (w.alloc (.cells #[(.bool false)] 4)) := vAlloc_ok ti4 K w
attribute [push_cast] Try.underlying4
@[push_cast] theorem sz5 : szOf Try.prog 5 = some 1 := by kernel_rfl
theorem ti5 : (Try.prog.info? 5).map (fun i => (i.zero, i.size, i.bytes)) = some (some (.int .u8 0), 1, 1) := by kernel_rfl
@[push_cast] theorem al5 (K : Value → World → Prop) (w : World) : vAlloc Try.prog 5 K w = K (.pointer (some ⟨w.heap.size, 0, none⟩)) (w.alloc (.cells #[(.int .u8 0)] 5)) := vAlloc_ok ti5 K w
attribute [push_cast] Try.underlying5
@[push_cast] theorem sz6 : szOf Try.prog 6 = some 1 := by kernel_rfl
theorem ti6 : (Try.prog.info? 6).map (fun i => (i.zero, i.size, i.bytes)) = some (some (.int .u8 0), 1, 1) := by kernel_rfl
@[push_cast] theorem al6 (K : Value → World → Prop) (w : World) : vAlloc Try.prog 6 K w = K (.pointer (some ⟨w.heap.size, 0, none⟩)) (w.alloc (.cells #[(.int .u8 0)] 6)) := vAlloc_ok ti6 K w
attribute [push_cast] Try.underlying6
@[push_cast] theorem sz9 : szOf Try.prog 9 = some 1 := by kernel_rfl
theorem ti9 : (Try.prog.info? 9).map (fun i => (i.zero, i.size, i.bytes)) = some (some (.string ⟨#[]⟩), 1, 16) := by kernel_rfl
@[push_cast] theorem al9 (K : Value → World → Prop) (w : World) : vAlloc Try.prog 9 K w = K (.pointer (some ⟨w.heap.size, 0, none⟩)) (w.alloc (.cells #[(.string ⟨#[]⟩)] 9)) := vAlloc_ok ti9 K w
attribute [push_cast] Try.underlying9
@[push_cast] theorem sz20 : szOf Try.prog 20 = some 1 := by kernel_rfl
theorem ti20 : (Try.prog.info? 20).map (fun i => (i.zero, i.size, i.bytes)) = some (some .nilIface, 1, 16) := by kernel_rfl
@[push_cast] theorem al20 (K : Value → World → Prop) (w : World) : vAlloc Try.prog 20 K w = K (.pointer (some ⟨w.heap.size, 0, none⟩)) (w.alloc (.cells #[.nilIface] 20)) := vAlloc_ok ti20 K w
@[push_cast] theorem one20 : oneD (Try.prog.underlying 20) = true := by kernel_rfl
@[push_cast] theorem sz21 : szOf Try.prog 21 = some 1 := by kernel_rfl
theorem ti21 : (Try.prog.info? 21).map (fun i => (i.zero, i.size, i.bytes)) = some (some (.int .i32 0), 1, 4) := by kernel_rfl
@[push_cast] theorem al21 (K : Value → World → Prop) (w : World) : vAlloc Try.prog 21 K w = K (.pointer (some ⟨w.heap.size, 0, none⟩)) (w.alloc (.cells #[(.int .i32 0)] 21)) := vAlloc_ok ti21 K w
attribute [push_cast] Try.underlying21
@[push_cast] theorem sz22 : szOf Try.prog 22 = some 1 := by kernel_rfl
theorem ti22 : (Try.prog.info? 22).map (fun i => (i.zero, i.size, i.bytes)) = some (some (.slice none 0 0), 1, 24) := by kernel_rfl
@[push_cast] theorem al22 (K : Value → World → Prop) (w : World) : vAlloc Try.prog 22 K w = K (.pointer (some ⟨w.heap.size, 0, none⟩)) (w.alloc (.cells #[(.slice none 0 0)] 22)) := vAlloc_ok ti22 K w
attribute [push_cast] Try.underlying22
@[push_cast] theorem sz23 : szOf Try.prog 23 = some 1 := by kernel_rfl
theorem ti23 : (Try.prog.info? 23).map (fun i => (i.zero, i.size, i.bytes)) = some (some (.pointer none), 1, 8) := by kernel_rfl
@[push_cast] theorem al23 (K : Value → World → Prop) (w : World) : vAlloc Try.prog 23 K w = K (.pointer (some ⟨w.heap.size, 0, none⟩)) (w.alloc (.cells #[(.pointer none)] 23)) := vAlloc_ok ti23 K w
attribute [push_cast] Try.underlying23
@[push_cast] theorem sz24 : szOf Try.prog 24 = some 1 := by kernel_rfl
theorem ti24 : (Try.prog.info? 24).map (fun i => (i.zero, i.size, i.bytes)) = some (some (.int .i64 0), 1, 8) := by kernel_rfl
@[push_cast] theorem al24 (K : Value → World → Prop) (w : World) : vAlloc Try.prog 24 K w = K (.pointer (some ⟨w.heap.size, 0, none⟩)) (w.alloc (.cells #[(.int .i64 0)] 24)) := vAlloc_ok ti24 K w
attribute [push_cast] Try.underlying24
@[push_cast] theorem sz35 : szOf Try.prog 35 = some 1 := by kernel_rfl
theorem ti35 : (Try.prog.info? 35).map (fun i => (i.zero, i.size, i.bytes)) = some (some (.slice none 0 0), 1, 24) := by kernel_rfl
@[push_cast] theorem al35 (K : Value → World → Prop) (w : World) : vAlloc Try.prog 35 K w = K (.pointer (some ⟨w.heap.size, 0, none⟩)) (w.alloc (.cells #[(.slice none 0 0)] 35)) := vAlloc_ok ti35 K w
attribute [push_cast] Try.underlying35
@[push_cast] theorem sz36 : szOf Try.prog 36 = some 5 := by kernel_rfl
theorem ti36 : (Try.prog.info? 36).map (fun i => (i.zero, i.size, i.bytes)) = some (some (.agg #[(.int .i64 0), (.int .i64 0), (.string ⟨#[]⟩), (.string ⟨#[]⟩), (.slice none 0 0)]), 5, 72) := by kernel_rfl
@[push_cast] theorem al36 (K : Value → World → Prop) (w : World) : vAlloc Try.prog 36 K w = K (.pointer (some ⟨w.heap.size, 0, none⟩)) (w.alloc (.cells #[(.int .i64 0), (.int .i64 0), (.string ⟨#[]⟩), (.string ⟨#[]⟩), (.slice none 0 0)] 36)) := vAlloc_ok ti36 K w
attribute [push_cast] Try.underlying36
@[push_cast] theorem fld36_0 : fieldOf Try.prog 36 0 = some (0, 3) := by kernel_rfl
@[push_cast] theorem fld36_1 : fieldOf Try.prog 36 1 = some (1, 3) := by kernel_rfl
@[push_cast] theorem fld36_2 : fieldOf Try.prog 36 2 = some (2, 9) := by kernel_rfl
@[push_cast] theorem fld36_3 : fieldOf Try.prog 36 3 = some (3, 9) := by kernel_rfl
@[push_cast] theorem fld36_4 : fieldOf Try.prog 36 4 = some (4, 22) := by kernel_rfl
@[push_cast] theorem sz37 : szOf Try.prog 37 = some 5 := by kernel_rfl
theorem ti37 : (Try.prog.info? 37).map (fun i => (i.zero, i.size, i.bytes)) = some (some (.agg #[(.int .i64 0), (.int .i64 0), (.string ⟨#[]⟩), (.string ⟨#[]⟩), (.slice none 0 0)]), 5, 72) := by kernel_rfl
@[push_cast] theorem al37 (K : Value → World → Prop) (w : World) : vAlloc Try.prog 37 K w = K (.pointer (some ⟨w.heap.size, 0, none⟩)) (w.alloc (.cells #[(.int .i64 0), (.int .i64 0), (.string ⟨#[]⟩), (.string ⟨#[]⟩), (.slice none 0 0)] 37)) := vAlloc_ok ti37 K w
attribute [push_cast] Try.underlying37
@[push_cast] theorem fld37_0 : fieldOf Try.prog 37 0 = some (0, 3) := by kernel_rfl
@[push_cast] theorem fld37_1 : fieldOf Try.prog 37 1 = some (1, 3) := by kernel_rfl
@[push_cast] theorem fld37_2 : fieldOf Try.prog 37 2 = some (2, 9) := by kernel_rfl
@[push_cast] theorem fld37_3 : fieldOf Try.prog 37 3 = some (3, 9) := by kernel_rfl
@[push_cast] theorem fld37_4 : fieldOf Try.prog 37 4 = some (4, 22) := by kernel_rfl
@[push_cast] theorem sz40 : szOf Try.prog 40 = some 1 := by kernel_rfl
theorem ti40 : (Try.prog.info? 40).map (fun i => (i.zero, i.size, i.bytes)) = some (some (.slice none 0 0), 1, 24) := by kernel_rfl
@[push_cast] theorem al40 (K : Value → World → Prop) (w : World) : vAlloc Try.prog 40 K w = K (.pointer (some ⟨w.heap.size, 0, none⟩)) (w.alloc (.cells #[(.slice none 0 0)] 40)) := vAlloc_ok ti40 K w
attribute [push_cast] Try.underlying40
@[push_cast] theorem sz55 : szOf Try.prog 55 = some 1 := by kernel_rfl
theorem ti55 : (Try.prog.info? 55).map (fun i => (i.zero, i.size, i.bytes)) = some (some (.map none), 1, 8) := by kernel_rfl
@[push_cast] theorem al55 (K : Value → World → Prop) (w : World) : vAlloc Try.prog 55 K w = K (.pointer (some ⟨w.heap.size, 0, none⟩)) (w.alloc (.cells #[(.map none)] 55)) := vAlloc_ok ti55 K w
attribute [push_cast] Try.underlying55
@[push_cast] theorem sz56 : szOf Try.prog 56 = some 3 := by kernel_rfl
theorem ti56 : (Try.prog.info? 56).map (fun i => (i.zero, i.size, i.bytes)) = some (some (.agg #[(.int .i64 0), (.int .i64 0), (.map none)]), 3, 24) := by kernel_rfl
@[push_cast] theorem al56 (K : Value → World → Prop) (w : World) : vAlloc Try.prog 56 K w = K (.pointer (some ⟨w.heap.size, 0, none⟩)) (w.alloc (.cells #[(.int .i64 0), (.int .i64 0), (.map none)] 56)) := vAlloc_ok ti56 K w
attribute [push_cast] Try.underlying56
@[push_cast] theorem fld56_0 : fieldOf Try.prog 56 0 = some (0, 3) := by kernel_rfl
@[push_cast] theorem fld56_1 : fieldOf Try.prog 56 1 = some (1, 3) := by kernel_rfl
@[push_cast] theorem fld56_2 : fieldOf Try.prog 56 2 = some (2, 55) := by kernel_rfl
@[push_cast] theorem sz57 : szOf Try.prog 57 = some 3 := by kernel_rfl
theorem ti57 : (Try.prog.info? 57).map (fun i => (i.zero, i.size, i.bytes)) = some (some (.agg #[(.int .i64 0), (.int .i64 0), (.map none)]), 3, 24) := by kernel_rfl
@[push_cast] theorem al57 (K : Value → World → Prop) (w : World) : vAlloc Try.prog 57 K w = K (.pointer (some ⟨w.heap.size, 0, none⟩)) (w.alloc (.cells #[(.int .i64 0), (.int .i64 0), (.map none)] 57)) := vAlloc_ok ti57 K w
attribute [push_cast] Try.underlying57
@[push_cast] theorem fld57_0 : fieldOf Try.prog 57 0 = some (0, 3) := by kernel_rfl
@[push_cast] theorem fld57_1 : fieldOf Try.prog 57 1 = some (1, 3) := by kernel_rfl
@[push_cast] theorem fld57_2 : fieldOf Try.prog 57 2 = some (2, 55) := by kernel_rfl
@[push_cast] theorem sz60 : szOf Try.prog 60 = some 2 := by kernel_rfl
theorem ti60 : (Try.prog.info? 60).map (fun i => (i.zero, i.size, i.bytes)) = some (some (.agg #[(.slice none 0 0), (.int .i64 0)]), 2, 32) := by kernel_rfl
@[push_cast] theorem al60 (K : Value → World → Prop) (w : World) : vAlloc Try.prog 60 K w = K (.pointer (some ⟨w.heap.size, 0, none⟩)) (w.alloc (.cells #[(.slice none 0 0), (.int .i64 0)] 60)) := vAlloc_ok ti60 K w
attribute [push_cast] Try.underlying60
@[push_cast] theorem fld60_0 : fieldOf Try.prog 60 0 = some (0, 22) := by kernel_rfl
@[push_cast] theorem fld60_1 : fieldOf Try.prog 60 1 = some (1, 3) := by kernel_rfl
@[push_cast] theorem sz61 : szOf Try.prog 61 = some 2 := by kernel_rfl
theorem ti61 : (Try.prog.info? 61).map (fun i => (i.zero, i.size, i.bytes)) = some (some (.agg #[(.slice none 0 0), (.int .i64 0)]), 2, 32) := by kernel_rfl
@[push_cast] theorem al61 (K : Value → World → Prop) (w : World) : vAlloc Try.prog 61 K w = K (.pointer (some ⟨w.heap.size, 0, none⟩)) (w.alloc (.cells #[(.slice none 0 0), (.int .i64 0)] 61)) := vAlloc_ok ti61 K w
attribute [push_cast] Try.underlying61
@[push_cast] theorem fld61_0 : fieldOf Try.prog 61 0 = some (0, 22) := by kernel_rfl
@[push_cast] theorem fld61_1 : fieldOf Try.prog 61 1 = some (1, 3) := by kernel_rfl
@[push_cast] theorem sz66 : szOf Try.prog 66 = some 1 := by kernel_rfl
theorem ti66 : (Try.prog.info? 66).map (fun i => (i.zero, i.size, i.bytes)) = some (some .nilFunc, 1, 8) := by kernel_rfl
@[push_cast] theorem al66 (K : Value → World → Prop) (w : World) : vAlloc Try.prog 66 K w = K (.pointer (some ⟨w.heap.size, 0, none⟩)) (w.alloc (.cells #[.nilFunc] 66)) := vAlloc_ok ti66 K w
@[push_cast] theorem one66 : oneD (Try.prog.underlying 66) = true := by kernel_rfl
@[push_cast] theorem sz67 : szOf Try.prog 67 = some 1 := by kernel_rfl
theorem ti67 : (Try.prog.info? 67).map (fun i => (i.zero, i.size, i.bytes)) = some (some .nilFunc, 1, 8) := by kernel_rfl
@[push_cast] theorem al67 (K : Value → World → Prop) (w : World) : vAlloc Try.prog 67 K w = K (.pointer (some ⟨w.heap.size, 0, none⟩)) (w.alloc (.cells #[.nilFunc] 67)) := vAlloc_ok ti67 K w
@[push_cast] theorem one67 : oneD (Try.prog.underlying 67) = true := by kernel_rfl
@[push_cast] theorem sz77 : szOf Try.prog 77 = some 1 := by kernel_rfl
theorem ti77 : (Try.prog.info? 77).map (fun i => (i.zero, i.size, i.bytes)) = some (some .nilFunc, 1, 8) := by kernel_rfl
@[push_cast] theorem al77 (K : Value → World → Prop) (w : World) : vAlloc Try.prog 77 K w = K (.pointer (some ⟨w.heap.size, 0, none⟩)) (w.alloc (.cells #[.nilFunc] 77)) := vAlloc_ok ti77 K w
@[push_cast] theorem one77 : oneD (Try.prog.underlying 77) = true := by kernel_rfl
@[push_cast] theorem sz78 : szOf Try.prog 78 = some 1 := by kernel_rfl
theorem ti78 : (Try.prog.info? 78).map (fun i => (i.zero, i.size, i.bytes)) = some (some (.slice none 0 0), 1, 24) := by kernel_rfl
@[push_cast] theorem al78 (K : Value → World → Prop) (w : World) : vAlloc Try.prog 78 K w = K (.pointer (some ⟨w.heap.size, 0, none⟩)) (w.alloc (.cells #[(.slice none 0 0)] 78)) := vAlloc_ok ti78 K w
attribute [push_cast] Try.underlying78
@[push_cast] theorem sz86 : szOf Try.prog 86 = some 1 := by kernel_rfl
theorem ti86 : (Try.prog.info? 86).map (fun i => (i.zero, i.size, i.bytes)) = some (some .nilFunc, 1, 8) := by kernel_rfl
@[push_cast] theorem al86 (K : Value → World → Prop) (w : World) : vAlloc Try.prog 86 K w = K (.pointer (some ⟨w.heap.size, 0, none⟩)) (w.alloc (.cells #[.nilFunc] 86)) := vAlloc_ok ti86 K w
@[push_cast] theorem one86 : oneD (Try.prog.underlying 86) = true := by kernel_rfl
@[push_cast] theorem sz90 : szOf Try.prog 90 = some 1 := by kernel_rfl
theorem ti90 : (Try.prog.info? 90).map (fun i => (i.zero, i.size, i.bytes)) = some (some (.int .u64 0), 1, 8) := by kernel_rfl
@[push_cast] theorem al90 (K : Value → World → Prop) (w : World) : vAlloc Try.prog 90 K w = K (.pointer (some ⟨w.heap.size, 0, none⟩)) (w.alloc (.cells #[(.int .u64 0)] 90)) := vAlloc_ok ti90 K w
attribute [push_cast] Try.underlying90
@[push_cast] theorem sz94 : szOf Try.prog 94 = some 1 := by kernel_rfl
theorem ti94 : (Try.prog.info? 94).map (fun i => (i.zero, i.size, i.bytes)) = some (some (.int .i64 0), 1, 8) := by kernel_rfl
@[push_cast] theorem al94 (K : Value → World → Prop) (w : World) : vAlloc Try.prog 94 K w = K (.pointer (some ⟨w.heap.size, 0, none⟩)) (w.alloc (.cells #[(.int .i64 0)] 94)) := vAlloc_ok ti94 K w
attribute [push_cast] Try.underlying94
@[push_cast] theorem sz102 : szOf Try.prog 102 = some 1 := by kernel_rfl
theorem ti102 : (Try.prog.info? 102).map (fun i => (i.zero, i.size, i.bytes)) = some (some (.int .u32 0), 1, 4) := by kernel_rfl
@[push_cast] theorem al102 (K : Value → World → Prop) (w : World) : vAlloc Try.prog 102 K w = K (.pointer (some ⟨w.heap.size, 0, none⟩)) (w.alloc (.cells #[(.int .u32 0)] 102)) := vAlloc_ok ti102 K w
attribute [push_cast] Try.underlying102
@[push_cast] theorem sz104 : szOf Try.prog 104 = some 1 := by kernel_rfl
theorem ti104 : (Try.prog.info? 104).map (fun i => (i.zero, i.size, i.bytes)) = some (some (.int .u64 0), 1, 8) := by kernel_rfl
@[push_cast] theorem al104 (K : Value → World → Prop) (w : World) : vAlloc Try.prog 104 K w = K (.pointer (some ⟨w.heap.size, 0, none⟩)) (w.alloc (.cells #[(.int .u64 0)] 104)) := vAlloc_ok ti104 K w
attribute [push_cast] Try.underlying104
@[push_cast] theorem sz109 : szOf Try.prog 109 = some 1 := by kernel_rfl
theorem ti109 : (Try.prog.info? 109).map (fun i => (i.zero, i.size, i.bytes)) = some (some (.int .u64 0), 1, 8) := by kernel_rfl
@[push_cast] theorem al109 (K : Value → World → Prop) (w : World) : vAlloc Try.prog 109 K w = K (.pointer (some ⟨w.heap.size, 0, none⟩)) (w.alloc (.cells #[(.int .u64 0)] 109)) := vAlloc_ok ti109 K w
attribute [push_cast] Try.underlying109
@[push_cast] theorem sz113 : szOf Try.prog 113 = some 1 := by kernel_rfl
theorem ti113 : (Try.prog.info? 113).map (fun i => (i.zero, i.size, i.bytes)) = some (some (.pointer none), 1, 8) := by kernel_rfl
@[push_cast] theorem al113 (K : Value → World → Prop) (w : World) : vAlloc Try.prog 113 K w = K (.pointer (some ⟨w.heap.size, 0, none⟩)) (w.alloc (.cells #[(.pointer none)] 113)) := vAlloc_ok ti113 K w
attribute [push_cast] Try.underlying113
@[push_cast] theorem sz115 : szOf Try.prog 115 = some 1 := by kernel_rfl
theorem ti115 : (Try.prog.info? 115).map (fun i => (i.zero, i.size, i.bytes)) = some (some (.pointer none), 1, 8) := by kernel_rfl
@[push_cast] theorem al115 (K : Value → World → Prop) (w : World) : vAlloc Try.prog 115 K w = K (.pointer (some ⟨w.heap.size, 0, none⟩)) (w.alloc (.cells #[(.pointer none)] 115)) := vAlloc_ok ti115 K w
attribute [push_cast] Try.underlying115
end Go.Proofs.Ytmfcnooleejgmaa
end
section
namespace Go.Proofs.Ytmfcnooleejgmaa
open Go.Vc
set_option maxRecDepth 100000
variable (Q : Post) (ds : List Deferred) (σ : Env) (w : World)
abbrev VR (r l : List VOp) : Prop := ∀ (Q : Post) (ds : List Deferred) (σ : Env) (w : World), vc Try.prog (.region r) Q ds σ w = vcOps Try.prog l (Q .normal ds) σ w
theorem vR {r l : List VOp} (h : r = l) : VR r l := fun Q ds σ w => mk_eq (by subst h; rfl)
abbrev mv (d s t : Nat) : VOp := ⟨some d, .move (.tmp s), t, none⟩
abbrev lda (d t s : Nat) : VOp := ⟨some d, .load t (.tmp s), t, none⟩
abbrev asg (d s t : Nat) : VOp := ⟨some d, .assign (.tmp s), t, none⟩
abbrev ext (d s i t : Nat) : VOp := ⟨some d, .extract (.tmp s) i, t, none⟩
abbrev fad (d t s i : Nat) : VOp := ⟨some d, .fieldAddr t (.tmp s) i, 0, none⟩
abbrev iad (d t s i : Nat) : VOp := ⟨some d, .indexAddr t (.tmp s) (.tmp i), 0, none⟩
/-! 9 columbary/vault.New (params #[3], results #[(.tmp 2), (.tmp 3)], 14 slots) -/
def r9_0 : List VOp :=
  [⟨some 2, .assign (.const (.pointer none)), 23, none⟩,
   ⟨some 3, .assign (.const (.int .i64 0)), 24, none⟩]
def r9_1 : List VOp :=
  [mv 4 0 3,
   ⟨some 5, .binOp .lss 3 (.tmp 4) (.const (.int .i64 0)) 3, 4, none⟩,
   mv 6 5 4,
   ⟨some 7, .move (.tmp 0), 3, some (6, false)⟩,
   ⟨some 8, .binOp .gtr 3 (.tmp 7) (.const (.int .i64 16777216)) 3, 4, some (6, false)⟩,
   ⟨some 9, .pick (.tmp 6) (.const (.bool true)) (.tmp 8), 4, none⟩]
def r9_2 : List VOp :=
  [⟨some 2, .assign (.const (.pointer none)), 23, none⟩,
   ⟨some 3, .assign (.const (.int .i64 1)), 24, none⟩]
def r9_3 : List VOp :=
  [mv 10 0 3,
   ⟨some 11, .makeMap 55 none, 55, none⟩,
   ⟨some 12, .build 57 #[(0, (.tmp 10)), (1, (.const (.int .i64 (-1)))), (2, (.tmp 11))], 57, none⟩,
   ⟨some 13, .box 57 (.tmp 12), 23, none⟩,
   asg 2 13 23,
   ⟨some 3, .assign (.const (.int .i64 0)), 24, none⟩]
def B9 : VC :=
  (.seq (.region r9_0) (.seq (.seq (.region r9_1) (.cond (.tmp 9) (.seq (.region r9_2) .ret) .skip)) (.seq (.region r9_3) .ret)))
theorem code9 : ∃ c, Try.f9.body = some c ∧ abs Try.f9.ntmps c = B9 := ⟨_, rfl, by kernel_rfl⟩
theorem hb9 : HasBody Try.prog 9 := hasBody_of Try.func9 (by kernel_rfl)
theorem res9 : Try.f9.results = #[(.tmp 2), (.tmp 3)] := rfl
theorem enter9 {w : World} {R : Value → World → Prop} (x0 : Value) (h : vc Try.prog B9 (retK Try.prog #[(.tmp 2), (.tmp 3)] R) [] (initEnv [x0] 0) w) : FnC Try.prog 9 #[x0] w R := by
  obtain ⟨c, h1, h2⟩ := code9
  exact hb9.fn (ret_of_vc mixed Try.func9 h1 (Nat.le_of_ble_eq_true rfl) B9 h2 h)
@[push_cast] theorem vr9_0 : VR r9_0 [⟨some 2, .assign (.const (.pointer none)), 23, none⟩, ⟨some 3, .assign (.const (.int .i64 0)), 24, none⟩] := vR rfl
@[push_cast] theorem vr9_1 : VR r9_1 [⟨some 4, .move (.tmp 0), 3, none⟩, ⟨some 5, .binOp .lss 3 (.tmp 4) (.const (.int .i64 0)) 3, 4, none⟩, ⟨some 6, .move (.tmp 5), 4, none⟩, ⟨some 7, .move (.tmp 0), 3, some (6, false)⟩, ⟨some 8, .binOp .gtr 3 (.tmp 7) (.const (.int .i64 16777216)) 3, 4, some (6, false)⟩, ⟨some 9, .pick (.tmp 6) (.const (.bool true)) (.tmp 8), 4, none⟩] := vR rfl
@[push_cast] theorem vr9_2 : VR r9_2 [⟨some 2, .assign (.const (.pointer none)), 23, none⟩, ⟨some 3, .assign (.const (.int .i64 1)), 24, none⟩] := vR rfl
@[push_cast] theorem vr9_3 : VR r9_3 [⟨some 10, .move (.tmp 0), 3, none⟩, ⟨some 11, .makeMap 55 none, 55, none⟩, ⟨some 12, .build 57 #[(0, (.tmp 10)), (1, (.const (.int .i64 (-1)))), (2, (.tmp 11))], 57, none⟩, ⟨some 13, .box 57 (.tmp 12), 23, none⟩, ⟨some 2, .assign (.tmp 13), 23, none⟩, ⟨some 3, .assign (.const (.int .i64 0)), 24, none⟩] := vR rfl
/-! 10 (*columbary/vault.Vault).Append (params #[23, 9, 22], results #[(.tmp 6)], 61 slots) -/
def r10_0 : List VOp :=
  [⟨some 6, .assign (.const (.int .i64 0)), 24, none⟩]
def r10_1 : List VOp :=
  [mv 11 0 23,
   mv 12 1 9,
   ⟨some 13, .call ⟨.value (.func 31), #[(.tmp 11), (.tmp 12), (.const (.bool false))], #[23, 9, 4]⟩, 24, none⟩,
   asg 7 13 24]
def r10_2 : List VOp :=
  [mv 14 7 24,
   ⟨some 15, .binOp .neq 24 (.tmp 14) (.const (.int .i64 0)) 24, 4, none⟩]
def r10_3 : List VOp :=
  [mv 16 7 24,
   asg 6 16 24]
def r10_4 : List VOp :=
  [mv 17 0 23,
   ⟨some 18, .call ⟨.value (.func 32), #[.tmp 17], #[23]⟩, 24, none⟩,
   asg 8 18 24]
def r10_5 : List VOp :=
  [mv 19 8 24,
   ⟨some 20, .binOp .neq 24 (.tmp 19) (.const (.int .i64 0)) 24, 4, none⟩]
def r10_6 : List VOp :=
  [mv 21 8 24,
   asg 6 21 24]
def r10_7 : List VOp :=
  [mv 23 0 23,
   ⟨some 24, .nilCheck (.tmp 23), 0, none⟩,
   fad 25 57 24 2,
   lda 26 55 25,
   mv 27 1 9,
   ⟨some 28, .lookup 55 (.tmp 26) (.tmp 27) true, 62, none⟩,
   mv 22 28 62,
   ext 29 22 0 61,
   ext 30 22 1 4,
   ⟨some 9, .alloc 61, 0, none⟩,
   ⟨none, .store 61 (.tmp 9) (.tmp 29), 0, none⟩,
   asg 10 30 4]
def r10_8 : List VOp :=
  [mv 31 2 22,
   ⟨some 32, .call ⟨.builtin .len, #[.tmp 31], #[22]⟩, 3, none⟩,
   mv 33 0 23,
   ⟨some 34, .call ⟨.value (.func 17), #[.tmp 33], #[23]⟩, 3, none⟩,
   ⟨some 35, .binOp .gtr 3 (.tmp 32) (.tmp 34) 3, 4, none⟩,
   mv 36 35 4,
   ⟨some 37, .move (.tmp 10), 4, some (36, false)⟩,
   ⟨some 38, .unOp .not 4 (.tmp 37), 4, some (36, false)⟩,
   ⟨some 39, .move (.tmp 38), 4, some (36, false)⟩,
   ⟨some 40, .move (.tmp 0), 23, some (39, true)⟩,
   ⟨some 41, .nilCheck (.tmp 40), 0, some (39, true)⟩,
   ⟨some 42, .fieldAddr 57 (.tmp 41) 2, 0, some (39, true)⟩,
   ⟨some 43, .load 55 (.tmp 42), 55, some (39, true)⟩,
   ⟨some 44, .call ⟨.builtin .len, #[.tmp 43], #[55]⟩, 3, some (39, true)⟩,
   ⟨some 45, .binOp .geq 3 (.tmp 44) (.const (.int .i64 200)) 3, 4, some (39, true)⟩,
   ⟨some 46, .pick (.tmp 39) (.tmp 45) (.const (.bool false)), 4, some (36, false)⟩,
   ⟨some 47, .pick (.tmp 36) (.const (.bool true)) (.tmp 46), 4, none⟩]
def r10_9 : List VOp :=
  [⟨some 6, .assign (.const (.int .i64 32)), 24, none⟩]
def r10_10 : List VOp :=
  [mv 48 0 23,
   ⟨some 49, .nilCheck (.tmp 48), 0, none⟩,
   fad 50 57 49 2,
   lda 51 55 50,
   mv 52 1 9,
   fad 53 61 9 0,
   lda 54 22 53,
   mv 55 2 22,
   ⟨some 56, .buildSlice 78 2 #[(0, (.tmp 54)), (1, (.tmp 55))], 78, none⟩,
   ⟨some 57, .call ⟨.value (.func 33), #[.tmp 56], #[78]⟩, 22, none⟩,
   fad 58 61 9 1,
   lda 59 3 58,
   ⟨some 60, .build 61 #[(0, (.tmp 57)), (1, (.tmp 59))], 61, none⟩,
   ⟨none, .mapUpdate 55 (.tmp 51) (.tmp 52) (.tmp 60), 0, none⟩]
def r10_11 : List VOp :=
  [⟨some 6, .assign (.const (.int .i64 0)), 24, none⟩]
def B10 : VC :=
  (.seq (.region r10_0) (.seq (.seq (.region r10_1) (.seq (.region r10_2) (.cond (.tmp 15) (.seq (.region r10_3) .ret) .skip))) (.seq (.seq (.region r10_4) (.seq (.region r10_5) (.cond (.tmp 20) (.seq (.region r10_6) .ret) .skip))) (.seq (.region r10_7) (.seq (.seq (.region r10_8) (.cond (.tmp 47) (.seq (.region r10_9) .ret) .skip)) (.seq (.draw r10_10 2) (.seq (.region r10_11) .ret)))))))
theorem code10 : ∃ c, Try.f10.body = some c ∧ abs Try.f10.ntmps c = B10 := ⟨_, rfl, by kernel_rfl⟩
theorem hb10 : HasBody Try.prog 10 := hasBody_of Try.func10 (by kernel_rfl)
theorem res10 : Try.f10.results = #[(.tmp 6)] := rfl
theorem enter10 {w : World} {R : Value → World → Prop} (x0 x1 x2 : Value) (h : vc Try.prog B10 (retK Try.prog #[(.tmp 6)] R) [] (initEnv [x0, x1, x2] 0) w) : FnC Try.prog 10 #[x0, x1, x2] w R := by
  obtain ⟨c, h1, h2⟩ := code10
  exact hb10.fn (ret_of_vc mixed Try.func10 h1 (Nat.le_of_ble_eq_true rfl) B10 h2 h)
@[push_cast] theorem vr10_0 : VR r10_0 [⟨some 6, .assign (.const (.int .i64 0)), 24, none⟩] := vR rfl
@[push_cast] theorem vr10_1 : VR r10_1 [⟨some 11, .move (.tmp 0), 23, none⟩, ⟨some 12, .move (.tmp 1), 9, none⟩, ⟨some 13, .call ⟨.value (.func 31), #[(.tmp 11), (.tmp 12), (.const (.bool false))], #[23, 9, 4]⟩, 24, none⟩, ⟨some 7, .assign (.tmp 13), 24, none⟩] := vR rfl
@[push_cast] theorem vr10_2 : VR r10_2 [⟨some 14, .move (.tmp 7), 24, none⟩, ⟨some 15, .binOp .neq 24 (.tmp 14) (.const (.int .i64 0)) 24, 4, none⟩] := vR rfl
@[push_cast] theorem vr10_3 : VR r10_3 [⟨some 16, .move (.tmp 7), 24, none⟩, ⟨some 6, .assign (.tmp 16), 24, none⟩] := vR rfl
@[push_cast] theorem vr10_4 : VR r10_4 [⟨some 17, .move (.tmp 0), 23, none⟩, ⟨some 18, .call ⟨.value (.func 32), #[.tmp 17], #[23]⟩, 24, none⟩, ⟨some 8, .assign (.tmp 18), 24, none⟩] := vR rfl
@[push_cast] theorem vr10_5 : VR r10_5 [⟨some 19, .move (.tmp 8), 24, none⟩, ⟨some 20, .binOp .neq 24 (.tmp 19) (.const (.int .i64 0)) 24, 4, none⟩] := vR rfl
@[push_cast] theorem vr10_6 : VR r10_6 [⟨some 21, .move (.tmp 8), 24, none⟩, ⟨some 6, .assign (.tmp 21), 24, none⟩] := vR rfl
@[push_cast] theorem vr10_7 : VR r10_7 [⟨some 23, .move (.tmp 0), 23, none⟩, ⟨some 24, .nilCheck (.tmp 23), 0, none⟩, ⟨some 25, .fieldAddr 57 (.tmp 24) 2, 0, none⟩, ⟨some 26, .load 55 (.tmp 25), 55, none⟩, ⟨some 27, .move (.tmp 1), 9, none⟩, ⟨some 28, .lookup 55 (.tmp 26) (.tmp 27) true, 62, none⟩, ⟨some 22, .move (.tmp 28), 62, none⟩, ⟨some 29, .extract (.tmp 22) 0, 61, none⟩, ⟨some 30, .extract (.tmp 22) 1, 4, none⟩, ⟨some 9, .alloc 61, 0, none⟩, ⟨none, .store 61 (.tmp 9) (.tmp 29), 0, none⟩, ⟨some 10, .assign (.tmp 30), 4, none⟩] := vR rfl
@[push_cast] theorem vr10_8 : VR r10_8 [⟨some 31, .move (.tmp 2), 22, none⟩, ⟨some 32, .call ⟨.builtin .len, #[.tmp 31], #[22]⟩, 3, none⟩, ⟨some 33, .move (.tmp 0), 23, none⟩, ⟨some 34, .call ⟨.value (.func 17), #[.tmp 33], #[23]⟩, 3, none⟩, ⟨some 35, .binOp .gtr 3 (.tmp 32) (.tmp 34) 3, 4, none⟩, ⟨some 36, .move (.tmp 35), 4, none⟩, ⟨some 37, .move (.tmp 10), 4, some (36, false)⟩, ⟨some 38, .unOp .not 4 (.tmp 37), 4, some (36, false)⟩, ⟨some 39, .move (.tmp 38), 4, some (36, false)⟩, ⟨some 40, .move (.tmp 0), 23, some (39, true)⟩, ⟨some 41, .nilCheck (.tmp 40), 0, some (39, true)⟩, ⟨some 42, .fieldAddr 57 (.tmp 41) 2, 0, some (39, true)⟩, ⟨some 43, .load 55 (.tmp 42), 55, some (39, true)⟩, ⟨some 44, .call ⟨.builtin .len, #[.tmp 43], #[55]⟩, 3, some (39, true)⟩, ⟨some 45, .binOp .geq 3 (.tmp 44) (.const (.int .i64 200)) 3, 4, some (39, true)⟩, ⟨some 46, .pick (.tmp 39) (.tmp 45) (.const (.bool false)), 4, some (36, false)⟩, ⟨some 47, .pick (.tmp 36) (.const (.bool true)) (.tmp 46), 4, none⟩] := vR rfl
@[push_cast] theorem vr10_9 : VR r10_9 [⟨some 6, .assign (.const (.int .i64 32)), 24, none⟩] := vR rfl
@[push_cast] theorem vr10_10 : vc Try.prog (.draw r10_10 2) Q ds σ w = drawn Try.prog [(⟨some 48, .move (.tmp 0), 23, none⟩, [0]), (⟨some 49, .nilCheck (.tmp 48), 0, none⟩, [48]), (⟨some 50, .fieldAddr 57 (.tmp 49) 2, 0, none⟩, [49]), (⟨some 51, .load 55 (.tmp 50), 55, none⟩, [50]), (⟨some 52, .move (.tmp 1), 9, none⟩, [1]), (⟨some 53, .fieldAddr 61 (.tmp 9) 0, 0, none⟩, [9]), (⟨some 54, .load 22 (.tmp 53), 22, none⟩, [53]), (⟨some 55, .move (.tmp 2), 22, none⟩, [2]), (⟨some 56, .buildSlice 78 2 #[(0, (.tmp 54)), (1, (.tmp 55))], 78, none⟩, [54, 55]), (⟨some 57, .call ⟨.value (.func 33), #[.tmp 56], #[78]⟩, 22, none⟩, [56]), (⟨some 58, .fieldAddr 61 (.tmp 9) 1, 0, none⟩, [9]), (⟨some 59, .load 3 (.tmp 58), 3, none⟩, [58]), (⟨some 60, .build 61 #[(0, (.tmp 57)), (1, (.tmp 59))], 61, none⟩, [57, 59]), (⟨none, .mapUpdate 55 (.tmp 51) (.tmp 52) (.tmp 60), 0, none⟩, [51, 52, 60])] 2 (Q .normal ds) σ w := mk_eq rfl
@[push_cast] theorem vr10_11 : VR r10_11 [⟨some 6, .assign (.const (.int .i64 0)), 24, none⟩] := vR rfl
/-! 11 (*columbary/vault.Vault).Sync (params #[23, 9], results #[(.tmp 4)], 36 slots) -/
def r11_0 : List VOp :=
  [⟨some 4, .assign (.const (.int .i64 0)), 24, none⟩]
def r11_1 : List VOp :=
  [mv 8 0 23,
   mv 9 1 9,
   ⟨some 10, .call ⟨.value (.func 31), #[(.tmp 8), (.tmp 9), (.const (.bool true))], #[23, 9, 4]⟩, 24, none⟩,
   asg 5 10 24]
def r11_2 : List VOp :=
  [mv 11 5 24,
   ⟨some 12, .binOp .neq 24 (.tmp 11) (.const (.int .i64 0)) 24, 4, none⟩]
def r11_3 : List VOp :=
  [mv 13 5 24,
   asg 4 13 24]
def r11_4 : List VOp :=
  [mv 14 0 23,
   ⟨some 15, .call ⟨.value (.func 32), #[.tmp 14], #[23]⟩, 24, none⟩,
   asg 6 15 24]
def r11_5 : List VOp :=
  [mv 16 6 24,
   ⟨some 17, .binOp .neq 24 (.tmp 16) (.const (.int .i64 0)) 24, 4, none⟩]
def r11_6 : List VOp :=
  [mv 18 6 24,
   asg 4 18 24]
def r11_7 : List VOp :=
  [mv 19 0 23,
   ⟨some 20, .nilCheck (.tmp 19), 0, none⟩,
   fad 21 57 20 2,
   lda 22 55 21,
   mv 23 1 9,
   ⟨some 24, .lookup 55 (.tmp 22) (.tmp 23) false, 61, none⟩,
   ⟨some 7, .alloc 61, 0, none⟩,
   ⟨none, .store 61 (.tmp 7) (.tmp 24), 0, none⟩]
def r11_8 : List VOp :=
  [mv 25 0 23,
   ⟨some 26, .nilCheck (.tmp 25), 0, none⟩,
   fad 27 57 26 2,
   lda 28 55 27,
   mv 29 1 9,
   fad 30 61 7 0,
   lda 31 22 30,
   fad 32 61 7 0,
   lda 33 22 32,
   ⟨some 34, .call ⟨.builtin .len, #[.tmp 33], #[22]⟩, 3, none⟩,
   ⟨some 35, .build 61 #[(0, (.tmp 31)), (1, (.tmp 34))], 61, none⟩,
   ⟨none, .mapUpdate 55 (.tmp 28) (.tmp 29) (.tmp 35), 0, none⟩]
def r11_9 : List VOp :=
  [⟨some 4, .assign (.const (.int .i64 0)), 24, none⟩]
def B11 : VC :=
  (.seq (.region r11_0) (.seq (.seq (.region r11_1) (.seq (.region r11_2) (.cond (.tmp 12) (.seq (.region r11_3) .ret) .skip))) (.seq (.seq (.region r11_4) (.seq (.region r11_5) (.cond (.tmp 17) (.seq (.region r11_6) .ret) .skip))) (.seq (.region r11_7) (.seq (.draw r11_8 2) (.seq (.region r11_9) .ret))))))
theorem code11 : ∃ c, Try.f11.body = some c ∧ abs Try.f11.ntmps c = B11 := ⟨_, rfl, by kernel_rfl⟩
theorem hb11 : HasBody Try.prog 11 := hasBody_of Try.func11 (by kernel_rfl)
theorem res11 : Try.f11.results = #[(.tmp 4)] := rfl
theorem enter11 {w : World} {R : Value → World → Prop} (x0 x1 : Value) (h : vc Try.prog B11 (retK Try.prog #[(.tmp 4)] R) [] (initEnv [x0, x1] 0) w) : FnC Try.prog 11 #[x0, x1] w R := by
  obtain ⟨c, h1, h2⟩ := code11
  exact hb11.fn (ret_of_vc mixed Try.func11 h1 (Nat.le_of_ble_eq_true rfl) B11 h2 h)
@[push_cast] theorem vr11_0 : VR r11_0 [⟨some 4, .assign (.const (.int .i64 0)), 24, none⟩] := vR rfl
@[push_cast] theorem vr11_1 : VR r11_1 [⟨some 8, .move (.tmp 0), 23, none⟩, ⟨some 9, .move (.tmp 1), 9, none⟩, ⟨some 10, .call ⟨.value (.func 31), #[(.tmp 8), (.tmp 9), (.const (.bool true))], #[23, 9, 4]⟩, 24, none⟩, ⟨some 5, .assign (.tmp 10), 24, none⟩] := vR rfl
@[push_cast] theorem vr11_2 : VR r11_2 [⟨some 11, .move (.tmp 5), 24, none⟩, ⟨some 12, .binOp .neq 24 (.tmp 11) (.const (.int .i64 0)) 24, 4, none⟩] := vR rfl
@[push_cast] theorem vr11_3 : VR r11_3 [⟨some 13, .move (.tmp 5), 24, none⟩, ⟨some 4, .assign (.tmp 13), 24, none⟩] := vR rfl
@[push_cast] theorem vr11_4 : VR r11_4 [⟨some 14, .move (.tmp 0), 23, none⟩, ⟨some 15, .call ⟨.value (.func 32), #[.tmp 14], #[23]⟩, 24, none⟩, ⟨some 6, .assign (.tmp 15), 24, none⟩] := vR rfl
@[push_cast] theorem vr11_5 : VR r11_5 [⟨some 16, .move (.tmp 6), 24, none⟩, ⟨some 17, .binOp .neq 24 (.tmp 16) (.const (.int .i64 0)) 24, 4, none⟩] := vR rfl
@[push_cast] theorem vr11_6 : VR r11_6 [⟨some 18, .move (.tmp 6), 24, none⟩, ⟨some 4, .assign (.tmp 18), 24, none⟩] := vR rfl
@[push_cast] theorem vr11_7 : VR r11_7 [⟨some 19, .move (.tmp 0), 23, none⟩, ⟨some 20, .nilCheck (.tmp 19), 0, none⟩, ⟨some 21, .fieldAddr 57 (.tmp 20) 2, 0, none⟩, ⟨some 22, .load 55 (.tmp 21), 55, none⟩, ⟨some 23, .move (.tmp 1), 9, none⟩, ⟨some 24, .lookup 55 (.tmp 22) (.tmp 23) false, 61, none⟩, ⟨some 7, .alloc 61, 0, none⟩, ⟨none, .store 61 (.tmp 7) (.tmp 24), 0, none⟩] := vR rfl
@[push_cast] theorem vr11_8 : vc Try.prog (.draw r11_8 2) Q ds σ w = drawn Try.prog [(⟨some 25, .move (.tmp 0), 23, none⟩, [0]), (⟨some 26, .nilCheck (.tmp 25), 0, none⟩, [25]), (⟨some 27, .fieldAddr 57 (.tmp 26) 2, 0, none⟩, [26]), (⟨some 28, .load 55 (.tmp 27), 55, none⟩, [27]), (⟨some 29, .move (.tmp 1), 9, none⟩, [1]), (⟨some 30, .fieldAddr 61 (.tmp 7) 0, 0, none⟩, [7]), (⟨some 31, .load 22 (.tmp 30), 22, none⟩, [30]), (⟨some 32, .fieldAddr 61 (.tmp 7) 0, 0, none⟩, [7]), (⟨some 33, .load 22 (.tmp 32), 22, none⟩, [32]), (⟨some 34, .call ⟨.builtin .len, #[.tmp 33], #[22]⟩, 3, none⟩, [33]), (⟨some 35, .build 61 #[(0, (.tmp 31)), (1, (.tmp 34))], 61, none⟩, [31, 34]), (⟨none, .mapUpdate 55 (.tmp 28) (.tmp 29) (.tmp 35), 0, none⟩, [28, 29, 35])] 2 (Q .normal ds) σ w := mk_eq rfl
@[push_cast] theorem vr11_9 : VR r11_9 [⟨some 4, .assign (.const (.int .i64 0)), 24, none⟩] := vR rfl
/-! 12 (*columbary/vault.Vault).Rename (params #[23, 9, 9], results #[(.tmp 6)], 45 slots) -/
def r12_0 : List VOp :=
  [⟨some 6, .assign (.const (.int .i64 0)), 24, none⟩]
def r12_1 : List VOp :=
  [mv 11 0 23,
   mv 12 1 9,
   ⟨some 13, .call ⟨.value (.func 31), #[(.tmp 11), (.tmp 12), (.const (.bool true))], #[23, 9, 4]⟩, 24, none⟩,
   asg 7 13 24]
def r12_2 : List VOp :=
  [mv 14 7 24,
   ⟨some 15, .binOp .neq 24 (.tmp 14) (.const (.int .i64 0)) 24, 4, none⟩]
def r12_3 : List VOp :=
  [mv 16 7 24,
   asg 6 16 24]
def r12_4 : List VOp :=
  [mv 17 0 23,
   mv 18 2 9,
   ⟨some 19, .call ⟨.value (.func 31), #[(.tmp 17), (.tmp 18), (.const (.bool false))], #[23, 9, 4]⟩, 24, none⟩,
   asg 8 19 24]
def r12_5 : List VOp :=
  [mv 20 8 24,
   ⟨some 21, .binOp .neq 24 (.tmp 20) (.const (.int .i64 0)) 24, 4, none⟩]
def r12_6 : List VOp :=
  [mv 22 8 24,
   asg 6 22 24]
def r12_7 : List VOp :=
  [mv 23 0 23,
   ⟨some 24, .call ⟨.value (.func 32), #[.tmp 23], #[23]⟩, 24, none⟩,
   asg 9 24 24]
def r12_8 : List VOp :=
  [mv 25 9 24,
   ⟨some 26, .binOp .neq 24 (.tmp 25) (.const (.int .i64 0)) 24, 4, none⟩]
def r12_9 : List VOp :=
  [mv 27 9 24,
   asg 6 27 24]
def r12_10 : List VOp :=
  [mv 28 0 23,
   ⟨some 29, .nilCheck (.tmp 28), 0, none⟩,
   fad 30 57 29 2,
   lda 31 55 30,
   mv 32 1 9,
   ⟨some 33, .lookup 55 (.tmp 31) (.tmp 32) false, 61, none⟩,
   ⟨some 10, .alloc 61, 0, none⟩,
   ⟨none, .store 61 (.tmp 10) (.tmp 33), 0, none⟩]
def r12_11 : List VOp :=
  [mv 34 0 23,
   ⟨some 35, .nilCheck (.tmp 34), 0, none⟩,
   fad 36 57 35 2,
   lda 37 55 36,
   mv 38 1 9,
   ⟨none, .call ⟨.builtin .delete, #[.tmp 37, .tmp 38], #[55, 9]⟩, 0, none⟩]
def r12_12 : List VOp :=
  [mv 39 0 23,
   ⟨some 40, .nilCheck (.tmp 39), 0, none⟩,
   fad 41 57 40 2,
   lda 42 55 41,
   mv 43 2 9,
   lda 44 61 10,
   ⟨none, .mapUpdate 55 (.tmp 42) (.tmp 43) (.tmp 44), 0, none⟩]
def r12_13 : List VOp :=
  [⟨some 6, .assign (.const (.int .i64 0)), 24, none⟩]
def B12 : VC :=
  (.seq (.region r12_0) (.seq (.seq (.region r12_1) (.seq (.region r12_2) (.cond (.tmp 15) (.seq (.region r12_3) .ret) .skip))) (.seq (.seq (.region r12_4) (.seq (.region r12_5) (.cond (.tmp 21) (.seq (.region r12_6) .ret) .skip))) (.seq (.seq (.region r12_7) (.seq (.region r12_8) (.cond (.tmp 26) (.seq (.region r12_9) .ret) .skip))) (.seq (.region r12_10) (.seq (.region r12_11) (.seq (.draw r12_12 2) (.seq (.region r12_13) .ret))))))))
theorem code12 : ∃ c, Try.f12.body = some c ∧ abs Try.f12.ntmps c = B12 := ⟨_, rfl, by kernel_rfl⟩
theorem hb12 : HasBody Try.prog 12 := hasBody_of Try.func12 (by kernel_rfl)
theorem res12 : Try.f12.results = #[(.tmp 6)] := rfl
theorem enter12 {w : World} {R : Value → World → Prop} (x0 x1 x2 : Value) (h : vc Try.prog B12 (retK Try.prog #[(.tmp 6)] R) [] (initEnv [x0, x1, x2] 0) w) : FnC Try.prog 12 #[x0, x1, x2] w R := by
  obtain ⟨c, h1, h2⟩ := code12
  exact hb12.fn (ret_of_vc mixed Try.func12 h1 (Nat.le_of_ble_eq_true rfl) B12 h2 h)
@[push_cast] theorem vr12_0 : VR r12_0 [⟨some 6, .assign (.const (.int .i64 0)), 24, none⟩] := vR rfl
@[push_cast] theorem vr12_1 : VR r12_1 [⟨some 11, .move (.tmp 0), 23, none⟩, ⟨some 12, .move (.tmp 1), 9, none⟩, ⟨some 13, .call ⟨.value (.func 31), #[(.tmp 11), (.tmp 12), (.const (.bool true))], #[23, 9, 4]⟩, 24, none⟩, ⟨some 7, .assign (.tmp 13), 24, none⟩] := vR rfl
@[push_cast] theorem vr12_2 : VR r12_2 [⟨some 14, .move (.tmp 7), 24, none⟩, ⟨some 15, .binOp .neq 24 (.tmp 14) (.const (.int .i64 0)) 24, 4, none⟩] := vR rfl
@[push_cast] theorem vr12_3 : VR r12_3 [⟨some 16, .move (.tmp 7), 24, none⟩, ⟨some 6, .assign (.tmp 16), 24, none⟩] := vR rfl
@[push_cast] theorem vr12_4 : VR r12_4 [⟨some 17, .move (.tmp 0), 23, none⟩, ⟨some 18, .move (.tmp 2), 9, none⟩, ⟨some 19, .call ⟨.value (.func 31), #[(.tmp 17), (.tmp 18), (.const (.bool false))], #[23, 9, 4]⟩, 24, none⟩, ⟨some 8, .assign (.tmp 19), 24, none⟩] := vR rfl
@[push_cast] theorem vr12_5 : VR r12_5 [⟨some 20, .move (.tmp 8), 24, none⟩, ⟨some 21, .binOp .neq 24 (.tmp 20) (.const (.int .i64 0)) 24, 4, none⟩] := vR rfl
@[push_cast] theorem vr12_6 : VR r12_6 [⟨some 22, .move (.tmp 8), 24, none⟩, ⟨some 6, .assign (.tmp 22), 24, none⟩] := vR rfl
@[push_cast] theorem vr12_7 : VR r12_7 [⟨some 23, .move (.tmp 0), 23, none⟩, ⟨some 24, .call ⟨.value (.func 32), #[.tmp 23], #[23]⟩, 24, none⟩, ⟨some 9, .assign (.tmp 24), 24, none⟩] := vR rfl
@[push_cast] theorem vr12_8 : VR r12_8 [⟨some 25, .move (.tmp 9), 24, none⟩, ⟨some 26, .binOp .neq 24 (.tmp 25) (.const (.int .i64 0)) 24, 4, none⟩] := vR rfl
@[push_cast] theorem vr12_9 : VR r12_9 [⟨some 27, .move (.tmp 9), 24, none⟩, ⟨some 6, .assign (.tmp 27), 24, none⟩] := vR rfl
@[push_cast] theorem vr12_10 : VR r12_10 [⟨some 28, .move (.tmp 0), 23, none⟩, ⟨some 29, .nilCheck (.tmp 28), 0, none⟩, ⟨some 30, .fieldAddr 57 (.tmp 29) 2, 0, none⟩, ⟨some 31, .load 55 (.tmp 30), 55, none⟩, ⟨some 32, .move (.tmp 1), 9, none⟩, ⟨some 33, .lookup 55 (.tmp 31) (.tmp 32) false, 61, none⟩, ⟨some 10, .alloc 61, 0, none⟩, ⟨none, .store 61 (.tmp 10) (.tmp 33), 0, none⟩] := vR rfl
@[push_cast] theorem vr12_11 : VR r12_11 [⟨some 34, .move (.tmp 0), 23, none⟩, ⟨some 35, .nilCheck (.tmp 34), 0, none⟩, ⟨some 36, .fieldAddr 57 (.tmp 35) 2, 0, none⟩, ⟨some 37, .load 55 (.tmp 36), 55, none⟩, ⟨some 38, .move (.tmp 1), 9, none⟩, ⟨none, .call ⟨.builtin .delete, #[.tmp 37, .tmp 38], #[55, 9]⟩, 0, none⟩] := vR rfl
@[push_cast] theorem vr12_12 : vc Try.prog (.draw r12_12 2) Q ds σ w = drawn Try.prog [(⟨some 39, .move (.tmp 0), 23, none⟩, [0]), (⟨some 40, .nilCheck (.tmp 39), 0, none⟩, [39]), (⟨some 41, .fieldAddr 57 (.tmp 40) 2, 0, none⟩, [40]), (⟨some 42, .load 55 (.tmp 41), 55, none⟩, [41]), (⟨some 43, .move (.tmp 2), 9, none⟩, [2]), (⟨some 44, .load 61 (.tmp 10), 61, none⟩, [10]), (⟨none, .mapUpdate 55 (.tmp 42) (.tmp 43) (.tmp 44), 0, none⟩, [42, 43, 44])] 2 (Q .normal ds) σ w := mk_eq rfl
@[push_cast] theorem vr12_13 : VR r12_13 [⟨some 6, .assign (.const (.int .i64 0)), 24, none⟩] := vR rfl
/-! 13 (*columbary/vault.Vault).Crash (params #[23, 3], results #[(.tmp 4)], 53 slots) -/
def W13_0 : List Nat := [6, 7, 8, 23, 24, 25, 26, 27, 28, 29, 30, 31, 32, 33, 34, 35, 36, 37, 38, 39, 40, 41, 42, 43, 44, 45, 46, 47, 48, 49, 50, 51]
@[push_cast] theorem W13_0_def : W13_0 = [6, 7, 8, 23, 24, 25, 26, 27, 28, 29, 30, 31, 32, 33, 34, 35, 36, 37, 38, 39, 40, 41, 42, 43, 44, 45, 46, 47, 48, 49, 50, 51] := mk_eq rfl
def r13_0 : List VOp :=
  [⟨some 4, .assign (.const (.pointer none)), 23, none⟩]
def r13_1 : List VOp :=
  [mv 9 0 23,
   ⟨some 10, .binOp .eql 23 (.tmp 9) (.const (.pointer none)) 23, 4, none⟩]
def r13_2 : List VOp :=
  [⟨some 4, .assign (.const (.pointer none)), 23, none⟩]
def r13_3 : List VOp :=
  [mv 11 0 23,
   ⟨some 12, .nilCheck (.tmp 11), 0, none⟩,
   fad 13 57 12 0,
   lda 14 3 13,
   ⟨some 15, .makeMap 55 none, 55, none⟩,
   ⟨some 16, .build 57 #[(0, (.tmp 14)), (1, (.const (.int .i64 (-1)))), (2, (.tmp 15))], 57, none⟩,
   ⟨some 17, .box 57 (.tmp 16), 23, none⟩,
   asg 5 17 23]
def r13_4 : List VOp :=
  [mv 18 0 23,
   ⟨some 19, .nilCheck (.tmp 18), 0, none⟩,
   fad 20 57 19 2,
   lda 21 55 20,
   ⟨some 22, .range 55 (.tmp 21), 0, none⟩]
def r13_5 : List VOp :=
  [⟨some 23, .next (.tmp 22) false, 0, none⟩,
   ext 24 23 0 4]
def r13_6 : List VOp :=
  [⟨some 25, .entry (.tmp 22), 0, none⟩,
   ext 26 25 0 9,
   ext 27 25 1 61,
   ⟨some 7, .alloc 61, 0, none⟩,
   asg 6 26 9,
   ⟨none, .store 61 (.tmp 7) (.tmp 27), 0, none⟩]
def r13_7 : List VOp :=
  [fad 28 61 7 1,
   lda 29 3 28,
   mv 30 1 3,
   ⟨some 31, .call ⟨.builtin .max, #[(.tmp 30), (.const (.int .i64 0))], #[3, 3]⟩, 3, none⟩,
   fad 32 61 7 0,
   lda 33 22 32,
   ⟨some 34, .call ⟨.builtin .len, #[.tmp 33], #[22]⟩, 3, none⟩,
   fad 35 61 7 1,
   lda 36 3 35,
   ⟨some 37, .binOp .sub 3 (.tmp 34) (.tmp 36) 3, 3, none⟩,
   ⟨some 38, .call ⟨.builtin .min, #[.tmp 31, .tmp 37], #[3, 3]⟩, 3, none⟩,
   ⟨some 39, .binOp .add 3 (.tmp 29) (.tmp 38) 3, 3, none⟩,
   asg 8 39 3]
def r13_8 : List VOp :=
  [mv 40 5 23,
   ⟨some 41, .nilCheck (.tmp 40), 0, none⟩,
   fad 42 57 41 2,
   lda 43 55 42,
   mv 44 6 9,
   fad 45 61 7 0,
   lda 46 22 45,
   mv 47 8 3,
   ⟨some 48, .slice 22 (.tmp 46) none (some (.tmp 47)) none, 22, none⟩,
   ⟨some 49, .call ⟨.value (.func 34), #[.tmp 48], #[22]⟩, 22, none⟩,
   mv 50 8 3,
   ⟨some 51, .build 61 #[(0, (.tmp 49)), (1, (.tmp 50))], 61, none⟩,
   ⟨none, .mapUpdate 55 (.tmp 43) (.tmp 44) (.tmp 51), 0, none⟩]
def r13_9 : List VOp :=
  [mv 52 5 23,
   asg 4 52 23]
def B13 : VC :=
  (.seq (.region r13_0) (.seq (.seq (.region r13_1) (.cond (.tmp 10) (.seq (.region r13_2) .ret) .skip)) (.seq (.region r13_3) (.seq (.seq (.region r13_4) (.block 0 (.loop (.seq (.region r13_5) (.seq (.cond (.tmp 24) .skip (.exit 0)) (.block 1 (.seq (.region r13_6) (.seq (.region r13_7) (.draw r13_8 2))))))))) (.seq (.region r13_9) .ret)))))
theorem code13 : ∃ c, Try.f13.body = some c ∧ abs Try.f13.ntmps c = B13 := ⟨_, rfl, by kernel_rfl⟩
theorem hb13 : HasBody Try.prog 13 := hasBody_of Try.func13 (by kernel_rfl)
theorem res13 : Try.f13.results = #[(.tmp 4)] := rfl
theorem enter13 {w : World} {R : Value → World → Prop} (x0 x1 : Value) (h : vc Try.prog B13 (retK Try.prog #[(.tmp 4)] R) [] (initEnv [x0, x1] 0) w) : FnC Try.prog 13 #[x0, x1] w R := by
  obtain ⟨c, h1, h2⟩ := code13
  exact hb13.fn (ret_of_vc mixed Try.func13 h1 (Nat.le_of_ble_eq_true rfl) B13 h2 h)
@[push_cast] theorem vr13_0 : VR r13_0 [⟨some 4, .assign (.const (.pointer none)), 23, none⟩] := vR rfl
@[push_cast] theorem vr13_1 : VR r13_1 [⟨some 9, .move (.tmp 0), 23, none⟩, ⟨some 10, .binOp .eql 23 (.tmp 9) (.const (.pointer none)) 23, 4, none⟩] := vR rfl
@[push_cast] theorem vr13_2 : VR r13_2 [⟨some 4, .assign (.const (.pointer none)), 23, none⟩] := vR rfl
@[push_cast] theorem vr13_3 : VR r13_3 [⟨some 11, .move (.tmp 0), 23, none⟩, ⟨some 12, .nilCheck (.tmp 11), 0, none⟩, ⟨some 13, .fieldAddr 57 (.tmp 12) 0, 0, none⟩, ⟨some 14, .load 3 (.tmp 13), 3, none⟩, ⟨some 15, .makeMap 55 none, 55, none⟩, ⟨some 16, .build 57 #[(0, (.tmp 14)), (1, (.const (.int .i64 (-1)))), (2, (.tmp 15))], 57, none⟩, ⟨some 17, .box 57 (.tmp 16), 23, none⟩, ⟨some 5, .assign (.tmp 17), 23, none⟩] := vR rfl
@[push_cast] theorem vr13_4 : VR r13_4 [⟨some 18, .move (.tmp 0), 23, none⟩, ⟨some 19, .nilCheck (.tmp 18), 0, none⟩, ⟨some 20, .fieldAddr 57 (.tmp 19) 2, 0, none⟩, ⟨some 21, .load 55 (.tmp 20), 55, none⟩, ⟨some 22, .range 55 (.tmp 21), 0, none⟩] := vR rfl
@[push_cast] theorem vr13_5 : VR r13_5 [⟨some 23, .next (.tmp 22) false, 0, none⟩, ⟨some 24, .extract (.tmp 23) 0, 4, none⟩] := vR rfl
@[push_cast] theorem vr13_6 : VR r13_6 [⟨some 25, .entry (.tmp 22), 0, none⟩, ⟨some 26, .extract (.tmp 25) 0, 9, none⟩, ⟨some 27, .extract (.tmp 25) 1, 61, none⟩, ⟨some 7, .alloc 61, 0, none⟩, ⟨some 6, .assign (.tmp 26), 9, none⟩, ⟨none, .store 61 (.tmp 7) (.tmp 27), 0, none⟩] := vR rfl
@[push_cast] theorem vr13_7 : VR r13_7 [⟨some 28, .fieldAddr 61 (.tmp 7) 1, 0, none⟩, ⟨some 29, .load 3 (.tmp 28), 3, none⟩, ⟨some 30, .move (.tmp 1), 3, none⟩, ⟨some 31, .call ⟨.builtin .max, #[(.tmp 30), (.const (.int .i64 0))], #[3, 3]⟩, 3, none⟩, ⟨some 32, .fieldAddr 61 (.tmp 7) 0, 0, none⟩, ⟨some 33, .load 22 (.tmp 32), 22, none⟩, ⟨some 34, .call ⟨.builtin .len, #[.tmp 33], #[22]⟩, 3, none⟩, ⟨some 35, .fieldAddr 61 (.tmp 7) 1, 0, none⟩, ⟨some 36, .load 3 (.tmp 35), 3, none⟩, ⟨some 37, .binOp .sub 3 (.tmp 34) (.tmp 36) 3, 3, none⟩, ⟨some 38, .call ⟨.builtin .min, #[.tmp 31, .tmp 37], #[3, 3]⟩, 3, none⟩, ⟨some 39, .binOp .add 3 (.tmp 29) (.tmp 38) 3, 3, none⟩, ⟨some 8, .assign (.tmp 39), 3, none⟩] := vR rfl
@[push_cast] theorem vr13_8 : vc Try.prog (.draw r13_8 2) Q ds σ w = drawn Try.prog [(⟨some 40, .move (.tmp 5), 23, none⟩, [5]), (⟨some 41, .nilCheck (.tmp 40), 0, none⟩, [40]), (⟨some 42, .fieldAddr 57 (.tmp 41) 2, 0, none⟩, [41]), (⟨some 43, .load 55 (.tmp 42), 55, none⟩, [42]), (⟨some 44, .move (.tmp 6), 9, none⟩, [6]), (⟨some 45, .fieldAddr 61 (.tmp 7) 0, 0, none⟩, [7]), (⟨some 46, .load 22 (.tmp 45), 22, none⟩, [45]), (⟨some 47, .move (.tmp 8), 3, none⟩, [8]), (⟨some 48, .slice 22 (.tmp 46) none (some (.tmp 47)) none, 22, none⟩, [46, 47]), (⟨some 49, .call ⟨.value (.func 34), #[.tmp 48], #[22]⟩, 22, none⟩, [48]), (⟨some 50, .move (.tmp 8), 3, none⟩, [8]), (⟨some 51, .build 61 #[(0, (.tmp 49)), (1, (.tmp 50))], 61, none⟩, [49, 50]), (⟨none, .mapUpdate 55 (.tmp 43) (.tmp 44) (.tmp 51), 0, none⟩, [43, 44, 51])] 2 (Q .normal ds) σ w := mk_eq rfl
@[push_cast] theorem vr13_9 : VR r13_9 [⟨some 52, .move (.tmp 5), 23, none⟩, ⟨some 4, .assign (.tmp 52), 23, none⟩] := vR rfl
/-! 14 (*columbary/vault.Vault).Read (params #[23, 9], results #[(.tmp 4), (.tmp 5)], 23 slots) -/
def r14_0 : List VOp :=
  [⟨some 4, .assign (.const (.slice none 0 0)), 22, none⟩,
   ⟨some 5, .assign (.const (.bool false)), 4, none⟩]
def r14_1 : List VOp :=
  [mv 8 0 23,
   ⟨some 9, .binOp .eql 23 (.tmp 8) (.const (.pointer none)) 23, 4, none⟩]
def r14_2 : List VOp :=
  [⟨some 4, .assign (.const (.slice none 0 0)), 22, none⟩,
   ⟨some 5, .assign (.const (.bool false)), 4, none⟩]
def r14_3 : List VOp :=
  [mv 11 0 23,
   ⟨some 12, .nilCheck (.tmp 11), 0, none⟩,
   fad 13 57 12 2,
   lda 14 55 13,
   mv 15 1 9,
   ⟨some 16, .lookup 55 (.tmp 14) (.tmp 15) true, 62, none⟩,
   mv 10 16 62,
   ext 17 10 0 61,
   ext 18 10 1 4,
   ⟨some 6, .alloc 61, 0, none⟩,
   ⟨none, .store 61 (.tmp 6) (.tmp 17), 0, none⟩,
   asg 7 18 4]
def r14_4 : List VOp :=
  [fad 19 61 6 0,
   lda 20 22 19,
   ⟨some 21, .call ⟨.value (.func 34), #[.tmp 20], #[22]⟩, 22, none⟩,
   mv 22 7 4,
   asg 4 21 22,
   asg 5 22 4]
def B14 : VC :=
  (.seq (.region r14_0) (.seq (.seq (.region r14_1) (.cond (.tmp 9) (.seq (.region r14_2) .ret) .skip)) (.seq (.region r14_3) (.seq (.region r14_4) .ret))))
theorem code14 : ∃ c, Try.f14.body = some c ∧ abs Try.f14.ntmps c = B14 := ⟨_, rfl, by kernel_rfl⟩
theorem hb14 : HasBody Try.prog 14 := hasBody_of Try.func14 (by kernel_rfl)
theorem res14 : Try.f14.results = #[(.tmp 4), (.tmp 5)] := rfl
theorem enter14 {w : World} {R : Value → World → Prop} (x0 x1 : Value) (h : vc Try.prog B14 (retK Try.prog #[(.tmp 4), (.tmp 5)] R) [] (initEnv [x0, x1] 0) w) : FnC Try.prog 14 #[x0, x1] w R := by
  obtain ⟨c, h1, h2⟩ := code14
  exact hb14.fn (ret_of_vc mixed Try.func14 h1 (Nat.le_of_ble_eq_true rfl) B14 h2 h)
@[push_cast] theorem vr14_0 : VR r14_0 [⟨some 4, .assign (.const (.slice none 0 0)), 22, none⟩, ⟨some 5, .assign (.const (.bool false)), 4, none⟩] := vR rfl
@[push_cast] theorem vr14_1 : VR r14_1 [⟨some 8, .move (.tmp 0), 23, none⟩, ⟨some 9, .binOp .eql 23 (.tmp 8) (.const (.pointer none)) 23, 4, none⟩] := vR rfl
@[push_cast] theorem vr14_2 : VR r14_2 [⟨some 4, .assign (.const (.slice none 0 0)), 22, none⟩, ⟨some 5, .assign (.const (.bool false)), 4, none⟩] := vR rfl
@[push_cast] theorem vr14_3 : VR r14_3 [⟨some 11, .move (.tmp 0), 23, none⟩, ⟨some 12, .nilCheck (.tmp 11), 0, none⟩, ⟨some 13, .fieldAddr 57 (.tmp 12) 2, 0, none⟩, ⟨some 14, .load 55 (.tmp 13), 55, none⟩, ⟨some 15, .move (.tmp 1), 9, none⟩, ⟨some 16, .lookup 55 (.tmp 14) (.tmp 15) true, 62, none⟩, ⟨some 10, .move (.tmp 16), 62, none⟩, ⟨some 17, .extract (.tmp 10) 0, 61, none⟩, ⟨some 18, .extract (.tmp 10) 1, 4, none⟩, ⟨some 6, .alloc 61, 0, none⟩, ⟨none, .store 61 (.tmp 6) (.tmp 17), 0, none⟩, ⟨some 7, .assign (.tmp 18), 4, none⟩] := vR rfl
@[push_cast] theorem vr14_4 : VR r14_4 [⟨some 19, .fieldAddr 61 (.tmp 6) 0, 0, none⟩, ⟨some 20, .load 22 (.tmp 19), 22, none⟩, ⟨some 21, .call ⟨.value (.func 34), #[.tmp 20], #[22]⟩, 22, none⟩, ⟨some 22, .move (.tmp 7), 4, none⟩, ⟨some 4, .assign (.tmp 21), 22, none⟩, ⟨some 5, .assign (.tmp 22), 4, none⟩] := vR rfl
/-! 15 columbary/columbarylaw03.alive (params #[], results #[(.tmp 0)], 64 slots) -/
def r15_0 : List VOp :=
  [⟨some 0, .assign (.const (.bool false)), 4, none⟩]
def r15_1 : List VOp :=
  [⟨some 7, .call ⟨.value (.func 9), #[(.const (.int .i64 20))], #[3]⟩, 25, none⟩,
   mv 6 7 25,
   ext 8 6 0 23,
   ext 9 6 1 24,
   asg 1 8 23,
   asg 2 9 24]
def r15_2 : List VOp :=
  [mv 10 2 24,
   ⟨some 11, .binOp .neq 24 (.tmp 10) (.const (.int .i64 0)) 24, 4, none⟩,
   mv 12 11 4,
   ⟨some 13, .move (.tmp 1), 23, some (12, false)⟩,
   ⟨some 14, .binOp .eql 23 (.tmp 13) (.const (.pointer none)) 23, 4, some (12, false)⟩,
   ⟨some 15, .pick (.tmp 12) (.const (.bool true)) (.tmp 14), 4, none⟩]
def r15_3 : List VOp :=
  [⟨some 0, .assign (.const (.bool false)), 4, none⟩]
def r15_4 : List VOp :=
  [mv 16 1 23,
   ⟨some 17, .buildSlice 22 4 #[(0, (.const (.int .u8 115))), (1, (.const (.int .u8 97))), (2, (.const (.int .u8 102))), (3, (.const (.int .u8 101)))], 22, none⟩,
   ⟨some 18, .convert 22 22 (.tmp 17), 22, none⟩,
   ⟨some 19, .call { callee := (.value (.func 10)), args := #[(.tmp 16), (.const (.string { data := #[97] })), (.tmp 18)], argTypes := #[23, 9, 22] }, 24, none⟩]
def r15_5 : List VOp :=
  [mv 20 1 23,
   ⟨some 21, .call { callee := (.value (.func 11)), args := #[(.tmp 20), (.const (.string { data := #[97] }))], argTypes := #[23, 9] }, 24, none⟩]
def r15_6 : List VOp :=
  [mv 22 1 23,
   ⟨some 23, .buildSlice 22 4 #[(0, (.const (.int .u8 109))), (1, (.const (.int .u8 111))), (2, (.const (.int .u8 114))), (3, (.const (.int .u8 101)))], 22, none⟩,
   ⟨some 24, .convert 22 22 (.tmp 23), 22, none⟩,
   ⟨some 25, .call { callee := (.value (.func 10)), args := #[(.tmp 22), (.const (.string { data := #[97] })), (.tmp 24)], argTypes := #[23, 9, 22] }, 24, none⟩]
def r15_7 : List VOp :=
  [mv 26 1 23,
   ⟨some 27, .call ⟨.value (.func 13), #[(.tmp 26), (.const (.int .i64 1))], #[23, 3]⟩, 23, none⟩,
   asg 3 27 23]
def r15_8 : List VOp :=
  [mv 29 3 23,
   ⟨some 30, .call { callee := (.value (.func 14)), args := #[(.tmp 29), (.const (.string { data := #[97] }))], argTypes := #[23, 9] }, 31, none⟩,
   mv 28 30 31,
   ext 31 28 0 22,
   ext 32 28 1 4,
   asg 4 31 22,
   asg 5 32 4]
def r15_9 : List VOp :=
  [mv 33 4 22,
   ⟨some 34, .convert 22 9 (.tmp 33), 9, none⟩,
   ⟨some 35, .binOp .eql 9 (.tmp 34) (.const (.string { data := #[115, 97, 102, 101, 109] })) 9, 4, none⟩,
   mv 36 35 4,
   ⟨some 37, .move (.tmp 5), 4, some (36, true)⟩,
   ⟨some 38, .pick (.tmp 36) (.tmp 37) (.const (.bool false)), 4, none⟩,
   mv 39 38 4,
   ⟨some 40, .move (.tmp 1), 23, some (39, true)⟩,
   ⟨some 41, .call ⟨.value (.func 17), #[.tmp 40], #[23]⟩, 3, some (39, true)⟩,
   ⟨some 42, .binOp .eql 3 (.tmp 41) (.const (.int .i64 12)) 3, 4, some (39, true)⟩,
   ⟨some 43, .pick (.tmp 39) (.tmp 42) (.const (.bool false)), 4, none⟩,
   mv 44 43 4,
   ⟨some 45, .move (.tmp 1), 23, some (44, true)⟩,
   ⟨some 46, .makeSlice 22 (.const (.int .i64 13)) (.const (.int .i64 13)), 22, some (44, true)⟩,
   ⟨some 47, .call { callee := (.value (.func 10)), args := #[(.tmp 45), (.const (.string { data := #[98] })), (.tmp 46)], argTypes := #[23, 9, 22] }, 24, some (44, true)⟩,
   ⟨some 48, .binOp .eql 24 (.tmp 47) (.const (.int .i64 32)) 24, 4, some (44, true)⟩,
   ⟨some 49, .pick (.tmp 44) (.tmp 48) (.const (.bool false)), 4, none⟩,
   mv 50 49 4,
   ⟨some 51, .move (.tmp 1), 23, some (50, true)⟩,
   ⟨some 52, .call ⟨.value (.func 27), #[(.tmp 51), (.const (.int .i64 1))], #[23, 3]⟩, 24, some (50, true)⟩,
   ⟨some 53, .binOp .eql 24 (.tmp 52) (.const (.int .i64 0)) 24, 4, some (50, true)⟩,
   ⟨some 54, .pick (.tmp 50) (.tmp 53) (.const (.bool false)), 4, none⟩,
   mv 55 54 4,
   ⟨some 56, .move (.tmp 1), 23, some (55, true)⟩,
   ⟨some 57, .call { callee := (.value (.func 30)), args := #[(.tmp 56), (.const (.string { data := #[97] }))], argTypes := #[23, 9] }, 24, some (55, true)⟩,
   ⟨some 58, .binOp .eql 24 (.tmp 57) (.const (.int .i64 272)) 24, 4, some (55, true)⟩,
   ⟨some 59, .pick (.tmp 55) (.tmp 58) (.const (.bool false)), 4, none⟩,
   mv 60 59 4,
   ⟨some 61, .move (.tmp 1), 23, some (60, true)⟩,
   ⟨some 62, .call ⟨.value (.func 28), #[.tmp 61], #[23]⟩, 4, some (60, true)⟩,
   ⟨some 63, .pick (.tmp 60) (.tmp 62) (.const (.bool false)), 4, none⟩,
   asg 0 63 4]
def B15 : VC :=
  (.seq (.region r15_0) (.seq (.region r15_1) (.seq (.seq (.region r15_2) (.cond (.tmp 15) (.seq (.region r15_3) .ret) .skip)) (.seq (.region r15_4) (.seq (.region r15_5) (.seq (.region r15_6) (.seq (.region r15_7) (.seq (.region r15_8) (.seq (.region r15_9) .ret)))))))))
theorem code15 : ∃ c, Try.f15.body = some c ∧ abs Try.f15.ntmps c = B15 := ⟨_, rfl, by kernel_rfl⟩
theorem hb15 : HasBody Try.prog 15 := hasBody_of Try.func15 (by kernel_rfl)
theorem res15 : Try.f15.results = #[(.tmp 0)] := rfl
theorem enter15 {w : World} {R : Value → World → Prop} (h : vc Try.prog B15 (retK Try.prog #[(.tmp 0)] R) [] (initEnv [] 0) w) : FnC Try.prog 15 #[] w R := by
  obtain ⟨c, h1, h2⟩ := code15
  exact hb15.fn (ret_of_vc mixed Try.func15 h1 (Nat.le_of_ble_eq_true rfl) B15 h2 h)
@[push_cast] theorem vr15_0 : VR r15_0 [⟨some 0, .assign (.const (.bool false)), 4, none⟩] := vR rfl
@[push_cast] theorem vr15_1 : VR r15_1 [⟨some 7, .call ⟨.value (.func 9), #[(.const (.int .i64 20))], #[3]⟩, 25, none⟩, ⟨some 6, .move (.tmp 7), 25, none⟩, ⟨some 8, .extract (.tmp 6) 0, 23, none⟩, ⟨some 9, .extract (.tmp 6) 1, 24, none⟩, ⟨some 1, .assign (.tmp 8), 23, none⟩, ⟨some 2, .assign (.tmp 9), 24, none⟩] := vR rfl
@[push_cast] theorem vr15_2 : VR r15_2 [⟨some 10, .move (.tmp 2), 24, none⟩, ⟨some 11, .binOp .neq 24 (.tmp 10) (.const (.int .i64 0)) 24, 4, none⟩, ⟨some 12, .move (.tmp 11), 4, none⟩, ⟨some 13, .move (.tmp 1), 23, some (12, false)⟩, ⟨some 14, .binOp .eql 23 (.tmp 13) (.const (.pointer none)) 23, 4, some (12, false)⟩, ⟨some 15, .pick (.tmp 12) (.const (.bool true)) (.tmp 14), 4, none⟩] := vR rfl
@[push_cast] theorem vr15_3 : VR r15_3 [⟨some 0, .assign (.const (.bool false)), 4, none⟩] := vR rfl
@[push_cast] theorem vr15_4 : VR r15_4 [⟨some 16, .move (.tmp 1), 23, none⟩, ⟨some 17, .buildSlice 22 4 #[(0, (.const (.int .u8 115))), (1, (.const (.int .u8 97))), (2, (.const (.int .u8 102))), (3, (.const (.int .u8 101)))], 22, none⟩, ⟨some 18, .convert 22 22 (.tmp 17), 22, none⟩, ⟨some 19, .call { callee := (.value (.func 10)), args := #[(.tmp 16), (.const (.string { data := #[97] })), (.tmp 18)], argTypes := #[23, 9, 22] }, 24, none⟩] := vR rfl
@[push_cast] theorem vr15_5 : VR r15_5 [⟨some 20, .move (.tmp 1), 23, none⟩, ⟨some 21, .call { callee := (.value (.func 11)), args := #[(.tmp 20), (.const (.string { data := #[97] }))], argTypes := #[23, 9] }, 24, none⟩] := vR rfl
@[push_cast] theorem vr15_6 : VR r15_6 [⟨some 22, .move (.tmp 1), 23, none⟩, ⟨some 23, .buildSlice 22 4 #[(0, (.const (.int .u8 109))), (1, (.const (.int .u8 111))), (2, (.const (.int .u8 114))), (3, (.const (.int .u8 101)))], 22, none⟩, ⟨some 24, .convert 22 22 (.tmp 23), 22, none⟩, ⟨some 25, .call { callee := (.value (.func 10)), args := #[(.tmp 22), (.const (.string { data := #[97] })), (.tmp 24)], argTypes := #[23, 9, 22] }, 24, none⟩] := vR rfl
@[push_cast] theorem vr15_7 : VR r15_7 [⟨some 26, .move (.tmp 1), 23, none⟩, ⟨some 27, .call ⟨.value (.func 13), #[(.tmp 26), (.const (.int .i64 1))], #[23, 3]⟩, 23, none⟩, ⟨some 3, .assign (.tmp 27), 23, none⟩] := vR rfl
@[push_cast] theorem vr15_8 : VR r15_8 [⟨some 29, .move (.tmp 3), 23, none⟩, ⟨some 30, .call { callee := (.value (.func 14)), args := #[(.tmp 29), (.const (.string { data := #[97] }))], argTypes := #[23, 9] }, 31, none⟩, ⟨some 28, .move (.tmp 30), 31, none⟩, ⟨some 31, .extract (.tmp 28) 0, 22, none⟩, ⟨some 32, .extract (.tmp 28) 1, 4, none⟩, ⟨some 4, .assign (.tmp 31), 22, none⟩, ⟨some 5, .assign (.tmp 32), 4, none⟩] := vR rfl
@[push_cast] theorem vr15_9 : VR r15_9 [⟨some 33, .move (.tmp 4), 22, none⟩, ⟨some 34, .convert 22 9 (.tmp 33), 9, none⟩, ⟨some 35, .binOp .eql 9 (.tmp 34) (.const (.string { data := #[115, 97, 102, 101, 109] })) 9, 4, none⟩, ⟨some 36, .move (.tmp 35), 4, none⟩, ⟨some 37, .move (.tmp 5), 4, some (36, true)⟩, ⟨some 38, .pick (.tmp 36) (.tmp 37) (.const (.bool false)), 4, none⟩, ⟨some 39, .move (.tmp 38), 4, none⟩, ⟨some 40, .move (.tmp 1), 23, some (39, true)⟩, ⟨some 41, .call ⟨.value (.func 17), #[.tmp 40], #[23]⟩, 3, some (39, true)⟩, ⟨some 42, .binOp .eql 3 (.tmp 41) (.const (.int .i64 12)) 3, 4, some (39, true)⟩, ⟨some 43, .pick (.tmp 39) (.tmp 42) (.const (.bool false)), 4, none⟩, ⟨some 44, .move (.tmp 43), 4, none⟩, ⟨some 45, .move (.tmp 1), 23, some (44, true)⟩, ⟨some 46, .makeSlice 22 (.const (.int .i64 13)) (.const (.int .i64 13)), 22, some (44, true)⟩, ⟨some 47, .call { callee := (.value (.func 10)), args := #[(.tmp 45), (.const (.string { data := #[98] })), (.tmp 46)], argTypes := #[23, 9, 22] }, 24, some (44, true)⟩, ⟨some 48, .binOp .eql 24 (.tmp 47) (.const (.int .i64 32)) 24, 4, some (44, true)⟩, ⟨some 49, .pick (.tmp 44) (.tmp 48) (.const (.bool false)), 4, none⟩, ⟨some 50, .move (.tmp 49), 4, none⟩, ⟨some 51, .move (.tmp 1), 23, some (50, true)⟩, ⟨some 52, .call ⟨.value (.func 27), #[(.tmp 51), (.const (.int .i64 1))], #[23, 3]⟩, 24, some (50, true)⟩, ⟨some 53, .binOp .eql 24 (.tmp 52) (.const (.int .i64 0)) 24, 4, some (50, true)⟩, ⟨some 54, .pick (.tmp 50) (.tmp 53) (.const (.bool false)), 4, none⟩, ⟨some 55, .move (.tmp 54), 4, none⟩, ⟨some 56, .move (.tmp 1), 23, some (55, true)⟩, ⟨some 57, .call { callee := (.value (.func 30)), args := #[(.tmp 56), (.const (.string { data := #[97] }))], argTypes := #[23, 9] }, 24, some (55, true)⟩, ⟨some 58, .binOp .eql 24 (.tmp 57) (.const (.int .i64 272)) 24, 4, some (55, true)⟩, ⟨some 59, .pick (.tmp 55) (.tmp 58) (.const (.bool false)), 4, none⟩, ⟨some 60, .move (.tmp 59), 4, none⟩, ⟨some 61, .move (.tmp 1), 23, some (60, true)⟩, ⟨some 62, .call ⟨.value (.func 28), #[.tmp 61], #[23]⟩, 4, some (60, true)⟩, ⟨some 63, .pick (.tmp 60) (.tmp 62) (.const (.bool false)), 4, none⟩, ⟨some 0, .assign (.tmp 63), 4, none⟩] := vR rfl
/-! 16 (columbary/columbarylaw03.Act).fits (params #[37], results #[(.tmp 2)], 19 slots) -/
def r16_0 : List VOp :=
  [⟨some 1, .box 37 (.tmp 0), 0, none⟩,
   ⟨some 2, .assign (.const (.bool false)), 4, none⟩]
def r16_1 : List VOp :=
  [fad 3 37 1 2,
   lda 4 9 3,
   ⟨some 5, .call ⟨.builtin .len, #[.tmp 4], #[9]⟩, 3, none⟩,
   ⟨some 6, .binOp .leq 3 (.tmp 5) (.const (.int .i64 200)) 3, 4, none⟩,
   mv 7 6 4,
   ⟨some 8, .fieldAddr 37 (.tmp 1) 3, 0, some (7, true)⟩,
   ⟨some 9, .load 9 (.tmp 8), 9, some (7, true)⟩,
   ⟨some 10, .call ⟨.builtin .len, #[.tmp 9], #[9]⟩, 3, some (7, true)⟩,
   ⟨some 11, .binOp .leq 3 (.tmp 10) (.const (.int .i64 200)) 3, 4, some (7, true)⟩,
   ⟨some 12, .pick (.tmp 7) (.tmp 11) (.const (.bool false)), 4, none⟩,
   mv 13 12 4,
   ⟨some 14, .fieldAddr 37 (.tmp 1) 4, 0, some (13, true)⟩,
   ⟨some 15, .load 22 (.tmp 14), 22, some (13, true)⟩,
   ⟨some 16, .call ⟨.builtin .len, #[.tmp 15], #[22]⟩, 3, some (13, true)⟩,
   ⟨some 17, .binOp .leq 3 (.tmp 16) (.const (.int .i64 200)) 3, 4, some (13, true)⟩,
   ⟨some 18, .pick (.tmp 13) (.tmp 17) (.const (.bool false)), 4, none⟩,
   asg 2 18 4]
def B16 : VC :=
  (.seq (.region r16_0) (.seq (.region r16_1) .ret))
theorem code16 : ∃ c, Try.f16.body = some c ∧ abs Try.f16.ntmps c = B16 := ⟨_, rfl, by kernel_rfl⟩
theorem hb16 : HasBody Try.prog 16 := hasBody_of Try.func16 (by kernel_rfl)
theorem res16 : Try.f16.results = #[(.tmp 2)] := rfl
theorem enter16 {w : World} {R : Value → World → Prop} (x0 : Value) (h : vc Try.prog B16 (retK Try.prog #[(.tmp 2)] R) [] (initEnv [x0] 0) w) : FnC Try.prog 16 #[x0] w R := by
  obtain ⟨c, h1, h2⟩ := code16
  exact hb16.fn (ret_of_vc mixed Try.func16 h1 (Nat.le_of_ble_eq_true rfl) B16 h2 h)
@[push_cast] theorem vr16_0 : VR r16_0 [⟨some 1, .box 37 (.tmp 0), 0, none⟩, ⟨some 2, .assign (.const (.bool false)), 4, none⟩] := vR rfl
@[push_cast] theorem vr16_1 : VR r16_1 [⟨some 3, .fieldAddr 37 (.tmp 1) 2, 0, none⟩, ⟨some 4, .load 9 (.tmp 3), 9, none⟩, ⟨some 5, .call ⟨.builtin .len, #[.tmp 4], #[9]⟩, 3, none⟩, ⟨some 6, .binOp .leq 3 (.tmp 5) (.const (.int .i64 200)) 3, 4, none⟩, ⟨some 7, .move (.tmp 6), 4, none⟩, ⟨some 8, .fieldAddr 37 (.tmp 1) 3, 0, some (7, true)⟩, ⟨some 9, .load 9 (.tmp 8), 9, some (7, true)⟩, ⟨some 10, .call ⟨.builtin .len, #[.tmp 9], #[9]⟩, 3, some (7, true)⟩, ⟨some 11, .binOp .leq 3 (.tmp 10) (.const (.int .i64 200)) 3, 4, some (7, true)⟩, ⟨some 12, .pick (.tmp 7) (.tmp 11) (.const (.bool false)), 4, none⟩, ⟨some 13, .move (.tmp 12), 4, none⟩, ⟨some 14, .fieldAddr 37 (.tmp 1) 4, 0, some (13, true)⟩, ⟨some 15, .load 22 (.tmp 14), 22, some (13, true)⟩, ⟨some 16, .call ⟨.builtin .len, #[.tmp 15], #[22]⟩, 3, some (13, true)⟩, ⟨some 17, .binOp .leq 3 (.tmp 16) (.const (.int .i64 200)) 3, 4, some (13, true)⟩, ⟨some 18, .pick (.tmp 13) (.tmp 17) (.const (.bool false)), 4, none⟩, ⟨some 2, .assign (.tmp 18), 4, none⟩] := vR rfl
/-! 17 (*columbary/vault.Vault).Free (params #[23], results #[(.tmp 2)], 27 slots) -/
def W17_0 : List Nat := [3, 5, 17, 18, 19, 20, 21, 22, 23, 24, 25]
@[push_cast] theorem W17_0_def : W17_0 = [3, 5, 17, 18, 19, 20, 21, 22, 23, 24, 25] := mk_eq rfl
def r17_0 : List VOp :=
  [⟨some 2, .assign (.const (.int .i64 0)), 3, none⟩]
def r17_1 : List VOp :=
  [mv 6 0 23,
   ⟨some 7, .binOp .eql 23 (.tmp 6) (.const (.pointer none)) 23, 4, none⟩]
def r17_2 : List VOp :=
  [⟨some 2, .assign (.const (.int .i64 0)), 3, none⟩]
def r17_3 : List VOp :=
  [mv 8 0 23,
   ⟨some 9, .nilCheck (.tmp 8), 0, none⟩,
   fad 10 57 9 0,
   lda 11 3 10,
   asg 3 11 3]
def r17_4 : List VOp :=
  [mv 12 0 23,
   ⟨some 13, .nilCheck (.tmp 12), 0, none⟩,
   fad 14 57 13 2,
   lda 15 55 14,
   ⟨some 16, .range 55 (.tmp 15), 0, none⟩]
def r17_5 : List VOp :=
  [⟨some 17, .next (.tmp 16) false, 0, none⟩,
   ext 18 17 0 4]
def r17_6 : List VOp :=
  [⟨some 19, .entry (.tmp 16), 0, none⟩,
   ext 20 19 1 61,
   ⟨some 5, .alloc 61, 0, none⟩,
   ⟨none, .store 61 (.tmp 5) (.tmp 20), 0, none⟩]
def r17_7 : List VOp :=
  [mv 21 3 3,
   fad 22 61 5 0,
   lda 23 22 22,
   ⟨some 24, .call ⟨.builtin .len, #[.tmp 23], #[22]⟩, 3, none⟩,
   ⟨some 25, .binOp .sub 3 (.tmp 21) (.tmp 24) 3, 3, none⟩,
   asg 3 25 3]
def r17_8 : List VOp :=
  [mv 26 3 3,
   asg 2 26 3]
def B17 : VC :=
  (.seq (.region r17_0) (.seq (.seq (.region r17_1) (.cond (.tmp 7) (.seq (.region r17_2) .ret) .skip)) (.seq (.region r17_3) (.seq (.seq (.region r17_4) (.block 0 (.loop (.seq (.region r17_5) (.seq (.cond (.tmp 18) .skip (.exit 0)) (.block 1 (.seq (.region r17_6) (.region r17_7)))))))) (.seq (.region r17_8) .ret)))))
theorem code17 : ∃ c, Try.f17.body = some c ∧ abs Try.f17.ntmps c = B17 := ⟨_, rfl, by kernel_rfl⟩
theorem hb17 : HasBody Try.prog 17 := hasBody_of Try.func17 (by kernel_rfl)
theorem res17 : Try.f17.results = #[(.tmp 2)] := rfl
theorem enter17 {w : World} {R : Value → World → Prop} (x0 : Value) (h : vc Try.prog B17 (retK Try.prog #[(.tmp 2)] R) [] (initEnv [x0] 0) w) : FnC Try.prog 17 #[x0] w R := by
  obtain ⟨c, h1, h2⟩ := code17
  exact hb17.fn (ret_of_vc mixed Try.func17 h1 (Nat.le_of_ble_eq_true rfl) B17 h2 h)
@[push_cast] theorem vr17_0 : VR r17_0 [⟨some 2, .assign (.const (.int .i64 0)), 3, none⟩] := vR rfl
@[push_cast] theorem vr17_1 : VR r17_1 [⟨some 6, .move (.tmp 0), 23, none⟩, ⟨some 7, .binOp .eql 23 (.tmp 6) (.const (.pointer none)) 23, 4, none⟩] := vR rfl
@[push_cast] theorem vr17_2 : VR r17_2 [⟨some 2, .assign (.const (.int .i64 0)), 3, none⟩] := vR rfl
@[push_cast] theorem vr17_3 : VR r17_3 [⟨some 8, .move (.tmp 0), 23, none⟩, ⟨some 9, .nilCheck (.tmp 8), 0, none⟩, ⟨some 10, .fieldAddr 57 (.tmp 9) 0, 0, none⟩, ⟨some 11, .load 3 (.tmp 10), 3, none⟩, ⟨some 3, .assign (.tmp 11), 3, none⟩] := vR rfl
@[push_cast] theorem vr17_4 : VR r17_4 [⟨some 12, .move (.tmp 0), 23, none⟩, ⟨some 13, .nilCheck (.tmp 12), 0, none⟩, ⟨some 14, .fieldAddr 57 (.tmp 13) 2, 0, none⟩, ⟨some 15, .load 55 (.tmp 14), 55, none⟩, ⟨some 16, .range 55 (.tmp 15), 0, none⟩] := vR rfl
@[push_cast] theorem vr17_5 : VR r17_5 [⟨some 17, .next (.tmp 16) false, 0, none⟩, ⟨some 18, .extract (.tmp 17) 0, 4, none⟩] := vR rfl
@[push_cast] theorem vr17_6 : VR r17_6 [⟨some 19, .entry (.tmp 16), 0, none⟩, ⟨some 20, .extract (.tmp 19) 1, 61, none⟩, ⟨some 5, .alloc 61, 0, none⟩, ⟨none, .store 61 (.tmp 5) (.tmp 20), 0, none⟩] := vR rfl
@[push_cast] theorem vr17_7 : VR r17_7 [⟨some 21, .move (.tmp 3), 3, none⟩, ⟨some 22, .fieldAddr 61 (.tmp 5) 0, 0, none⟩, ⟨some 23, .load 22 (.tmp 22), 22, none⟩, ⟨some 24, .call ⟨.builtin .len, #[.tmp 23], #[22]⟩, 3, none⟩, ⟨some 25, .binOp .sub 3 (.tmp 21) (.tmp 24) 3, 3, none⟩, ⟨some 3, .assign (.tmp 25), 3, none⟩] := vR rfl
@[push_cast] theorem vr17_8 : VR r17_8 [⟨some 26, .move (.tmp 3), 3, none⟩, ⟨some 2, .assign (.tmp 26), 3, none⟩] := vR rfl
/-! 23 (*columbary/vault.Vault).Copy (params #[23], results #[(.tmp 2)], 20 slots) -/
def r23_0 : List VOp :=
  [⟨some 2, .assign (.const (.pointer none)), 23, none⟩]
def r23_1 : List VOp :=
  [mv 3 0 23,
   ⟨some 4, .binOp .eql 23 (.tmp 3) (.const (.pointer none)) 23, 4, none⟩]
def r23_2 : List VOp :=
  [⟨some 2, .assign (.const (.pointer none)), 23, none⟩]
def r23_3 : List VOp :=
  [mv 5 0 23,
   ⟨some 6, .nilCheck (.tmp 5), 0, none⟩,
   fad 7 57 6 0,
   lda 8 3 7,
   mv 9 0 23,
   ⟨some 10, .nilCheck (.tmp 9), 0, none⟩,
   fad 11 57 10 1,
   lda 12 3 11,
   mv 13 0 23,
   ⟨some 14, .nilCheck (.tmp 13), 0, none⟩,
   fad 15 57 14 2,
   lda 16 55 15,
   ⟨some 17, .call ⟨.value (.func 41), #[.tmp 16], #[55]⟩, 55, none⟩,
   ⟨some 18, .build 57 #[(0, (.tmp 8)), (1, (.tmp 12)), (2, (.tmp 17))], 57, none⟩,
   ⟨some 19, .box 57 (.tmp 18), 23, none⟩,
   asg 2 19 23]
def B23 : VC :=
  (.seq (.region r23_0) (.seq (.seq (.region r23_1) (.cond (.tmp 4) (.seq (.region r23_2) .ret) .skip)) (.seq (.draw r23_3 4) .ret)))
theorem code23 : ∃ c, Try.f23.body = some c ∧ abs Try.f23.ntmps c = B23 := ⟨_, rfl, by kernel_rfl⟩
theorem hb23 : HasBody Try.prog 23 := hasBody_of Try.func23 (by kernel_rfl)
theorem res23 : Try.f23.results = #[(.tmp 2)] := rfl
theorem enter23 {w : World} {R : Value → World → Prop} (x0 : Value) (h : vc Try.prog B23 (retK Try.prog #[(.tmp 2)] R) [] (initEnv [x0] 0) w) : FnC Try.prog 23 #[x0] w R := by
  obtain ⟨c, h1, h2⟩ := code23
  exact hb23.fn (ret_of_vc mixed Try.func23 h1 (Nat.le_of_ble_eq_true rfl) B23 h2 h)
@[push_cast] theorem vr23_0 : VR r23_0 [⟨some 2, .assign (.const (.pointer none)), 23, none⟩] := vR rfl
@[push_cast] theorem vr23_1 : VR r23_1 [⟨some 3, .move (.tmp 0), 23, none⟩, ⟨some 4, .binOp .eql 23 (.tmp 3) (.const (.pointer none)) 23, 4, none⟩] := vR rfl
@[push_cast] theorem vr23_2 : VR r23_2 [⟨some 2, .assign (.const (.pointer none)), 23, none⟩] := vR rfl
@[push_cast] theorem vr23_3 : vc Try.prog (.draw r23_3 4) Q ds σ w = drawn Try.prog [(⟨some 5, .move (.tmp 0), 23, none⟩, [0]), (⟨some 6, .nilCheck (.tmp 5), 0, none⟩, [5]), (⟨some 7, .fieldAddr 57 (.tmp 6) 0, 0, none⟩, [6]), (⟨some 8, .load 3 (.tmp 7), 3, none⟩, [7]), (⟨some 9, .move (.tmp 0), 23, none⟩, [0]), (⟨some 10, .nilCheck (.tmp 9), 0, none⟩, [9]), (⟨some 11, .fieldAddr 57 (.tmp 10) 1, 0, none⟩, [10]), (⟨some 12, .load 3 (.tmp 11), 3, none⟩, [11]), (⟨some 13, .move (.tmp 0), 23, none⟩, [0]), (⟨some 14, .nilCheck (.tmp 13), 0, none⟩, [13]), (⟨some 15, .fieldAddr 57 (.tmp 14) 2, 0, none⟩, [14]), (⟨some 16, .load 55 (.tmp 15), 55, none⟩, [15]), (⟨some 17, .call ⟨.value (.func 41), #[.tmp 16], #[55]⟩, 55, none⟩, [16]), (⟨some 18, .build 57 #[(0, (.tmp 8)), (1, (.tmp 12)), (2, (.tmp 17))], 57, none⟩, [8, 12, 17]), (⟨some 19, .box 57 (.tmp 18), 23, none⟩, [18]), (⟨some 2, .assign (.tmp 19), 23, none⟩, [19])] 4 (Q .normal ds) σ w := mk_eq rfl
/-! 27 (*columbary/vault.Vault).Arm (params #[23, 3], results #[(.tmp 4)], 15 slots) -/
def r27_0 : List VOp :=
  [⟨some 4, .assign (.const (.int .i64 0)), 24, none⟩]
def r27_1 : List VOp :=
  [mv 5 0 23,
   ⟨some 6, .binOp .eql 23 (.tmp 5) (.const (.pointer none)) 23, 4, none⟩,
   mv 7 6 4,
   ⟨some 8, .move (.tmp 1), 3, some (7, false)⟩,
   ⟨some 9, .binOp .lss 3 (.tmp 8) (.const (.int .i64 0)) 3, 4, some (7, false)⟩,
   ⟨some 10, .pick (.tmp 7) (.const (.bool true)) (.tmp 9), 4, none⟩]
def r27_2 : List VOp :=
  [⟨some 4, .assign (.const (.int .i64 1)), 24, none⟩]
def r27_3 : List VOp :=
  [mv 11 0 23,
   mv 12 1 3,
   ⟨some 13, .nilCheck (.tmp 11), 0, none⟩,
   fad 14 57 13 1,
   ⟨none, .store 3 (.tmp 14) (.tmp 12), 0, none⟩]
def r27_4 : List VOp :=
  [⟨some 4, .assign (.const (.int .i64 0)), 24, none⟩]
def B27 : VC :=
  (.seq (.region r27_0) (.seq (.seq (.region r27_1) (.cond (.tmp 10) (.seq (.region r27_2) .ret) .skip)) (.seq (.region r27_3) (.seq (.region r27_4) .ret))))
theorem code27 : ∃ c, Try.f27.body = some c ∧ abs Try.f27.ntmps c = B27 := ⟨_, rfl, by kernel_rfl⟩
theorem hb27 : HasBody Try.prog 27 := hasBody_of Try.func27 (by kernel_rfl)
theorem res27 : Try.f27.results = #[(.tmp 4)] := rfl
theorem enter27 {w : World} {R : Value → World → Prop} (x0 x1 : Value) (h : vc Try.prog B27 (retK Try.prog #[(.tmp 4)] R) [] (initEnv [x0, x1] 0) w) : FnC Try.prog 27 #[x0, x1] w R := by
  obtain ⟨c, h1, h2⟩ := code27
  exact hb27.fn (ret_of_vc mixed Try.func27 h1 (Nat.le_of_ble_eq_true rfl) B27 h2 h)
@[push_cast] theorem vr27_0 : VR r27_0 [⟨some 4, .assign (.const (.int .i64 0)), 24, none⟩] := vR rfl
@[push_cast] theorem vr27_1 : VR r27_1 [⟨some 5, .move (.tmp 0), 23, none⟩, ⟨some 6, .binOp .eql 23 (.tmp 5) (.const (.pointer none)) 23, 4, none⟩, ⟨some 7, .move (.tmp 6), 4, none⟩, ⟨some 8, .move (.tmp 1), 3, some (7, false)⟩, ⟨some 9, .binOp .lss 3 (.tmp 8) (.const (.int .i64 0)) 3, 4, some (7, false)⟩, ⟨some 10, .pick (.tmp 7) (.const (.bool true)) (.tmp 9), 4, none⟩] := vR rfl
@[push_cast] theorem vr27_2 : VR r27_2 [⟨some 4, .assign (.const (.int .i64 1)), 24, none⟩] := vR rfl
@[push_cast] theorem vr27_3 : VR r27_3 [⟨some 11, .move (.tmp 0), 23, none⟩, ⟨some 12, .move (.tmp 1), 3, none⟩, ⟨some 13, .nilCheck (.tmp 11), 0, none⟩, ⟨some 14, .fieldAddr 57 (.tmp 13) 1, 0, none⟩, ⟨none, .store 3 (.tmp 14) (.tmp 12), 0, none⟩] := vR rfl
@[push_cast] theorem vr27_4 : VR r27_4 [⟨some 4, .assign (.const (.int .i64 0)), 24, none⟩] := vR rfl
/-! 28 (*columbary/vault.Vault).Broken (params #[23], results #[(.tmp 2)], 12 slots) -/
def r28_0 : List VOp :=
  [⟨some 2, .assign (.const (.bool false)), 4, none⟩]
def r28_1 : List VOp :=
  [mv 3 0 23,
   ⟨some 4, .binOp .neq 23 (.tmp 3) (.const (.pointer none)) 23, 4, none⟩,
   mv 5 4 4,
   ⟨some 6, .move (.tmp 0), 23, some (5, true)⟩,
   ⟨some 7, .nilCheck (.tmp 6), 0, some (5, true)⟩,
   ⟨some 8, .fieldAddr 57 (.tmp 7) 1, 0, some (5, true)⟩,
   ⟨some 9, .load 3 (.tmp 8), 3, some (5, true)⟩,
   ⟨some 10, .binOp .eql 3 (.tmp 9) (.const (.int .i64 0)) 3, 4, some (5, true)⟩,
   ⟨some 11, .pick (.tmp 5) (.tmp 10) (.const (.bool false)), 4, none⟩,
   asg 2 11 4]
def B28 : VC :=
  (.seq (.region r28_0) (.seq (.region r28_1) .ret))
theorem code28 : ∃ c, Try.f28.body = some c ∧ abs Try.f28.ntmps c = B28 := ⟨_, rfl, by kernel_rfl⟩
theorem hb28 : HasBody Try.prog 28 := hasBody_of Try.func28 (by kernel_rfl)
theorem res28 : Try.f28.results = #[(.tmp 2)] := rfl
theorem enter28 {w : World} {R : Value → World → Prop} (x0 : Value) (h : vc Try.prog B28 (retK Try.prog #[(.tmp 2)] R) [] (initEnv [x0] 0) w) : FnC Try.prog 28 #[x0] w R := by
  obtain ⟨c, h1, h2⟩ := code28
  exact hb28.fn (ret_of_vc mixed Try.func28 h1 (Nat.le_of_ble_eq_true rfl) B28 h2 h)
@[push_cast] theorem vr28_0 : VR r28_0 [⟨some 2, .assign (.const (.bool false)), 4, none⟩] := vR rfl
@[push_cast] theorem vr28_1 : VR r28_1 [⟨some 3, .move (.tmp 0), 23, none⟩, ⟨some 4, .binOp .neq 23 (.tmp 3) (.const (.pointer none)) 23, 4, none⟩, ⟨some 5, .move (.tmp 4), 4, none⟩, ⟨some 6, .move (.tmp 0), 23, some (5, true)⟩, ⟨some 7, .nilCheck (.tmp 6), 0, some (5, true)⟩, ⟨some 8, .fieldAddr 57 (.tmp 7) 1, 0, some (5, true)⟩, ⟨some 9, .load 3 (.tmp 8), 3, some (5, true)⟩, ⟨some 10, .binOp .eql 3 (.tmp 9) (.const (.int .i64 0)) 3, 4, some (5, true)⟩, ⟨some 11, .pick (.tmp 5) (.tmp 10) (.const (.bool false)), 4, none⟩, ⟨some 2, .assign (.tmp 11), 4, none⟩] := vR rfl
/-! 30 (*columbary/vault.Vault).Delete (params #[23, 9], results #[(.tmp 4)], 23 slots) -/
def r30_0 : List VOp :=
  [⟨some 4, .assign (.const (.int .i64 0)), 24, none⟩]
def r30_1 : List VOp :=
  [mv 7 0 23,
   mv 8 1 9,
   ⟨some 9, .call ⟨.value (.func 31), #[(.tmp 7), (.tmp 8), (.const (.bool true))], #[23, 9, 4]⟩, 24, none⟩,
   asg 5 9 24]
def r30_2 : List VOp :=
  [mv 10 5 24,
   ⟨some 11, .binOp .neq 24 (.tmp 10) (.const (.int .i64 0)) 24, 4, none⟩]
def r30_3 : List VOp :=
  [mv 12 5 24,
   asg 4 12 24]
def r30_4 : List VOp :=
  [mv 13 0 23,
   ⟨some 14, .call ⟨.value (.func 32), #[.tmp 13], #[23]⟩, 24, none⟩,
   asg 6 14 24]
def r30_5 : List VOp :=
  [mv 15 6 24,
   ⟨some 16, .binOp .neq 24 (.tmp 15) (.const (.int .i64 0)) 24, 4, none⟩]
def r30_6 : List VOp :=
  [mv 17 6 24,
   asg 4 17 24]
def r30_7 : List VOp :=
  [mv 18 0 23,
   ⟨some 19, .nilCheck (.tmp 18), 0, none⟩,
   fad 20 57 19 2,
   lda 21 55 20,
   mv 22 1 9,
   ⟨none, .call ⟨.builtin .delete, #[.tmp 21, .tmp 22], #[55, 9]⟩, 0, none⟩]
def r30_8 : List VOp :=
  [⟨some 4, .assign (.const (.int .i64 0)), 24, none⟩]
def B30 : VC :=
  (.seq (.region r30_0) (.seq (.seq (.region r30_1) (.seq (.region r30_2) (.cond (.tmp 11) (.seq (.region r30_3) .ret) .skip))) (.seq (.seq (.region r30_4) (.seq (.region r30_5) (.cond (.tmp 16) (.seq (.region r30_6) .ret) .skip))) (.seq (.region r30_7) (.seq (.region r30_8) .ret)))))
theorem code30 : ∃ c, Try.f30.body = some c ∧ abs Try.f30.ntmps c = B30 := ⟨_, rfl, by kernel_rfl⟩
theorem hb30 : HasBody Try.prog 30 := hasBody_of Try.func30 (by kernel_rfl)
theorem res30 : Try.f30.results = #[(.tmp 4)] := rfl
theorem enter30 {w : World} {R : Value → World → Prop} (x0 x1 : Value) (h : vc Try.prog B30 (retK Try.prog #[(.tmp 4)] R) [] (initEnv [x0, x1] 0) w) : FnC Try.prog 30 #[x0, x1] w R := by
  obtain ⟨c, h1, h2⟩ := code30
  exact hb30.fn (ret_of_vc mixed Try.func30 h1 (Nat.le_of_ble_eq_true rfl) B30 h2 h)
@[push_cast] theorem vr30_0 : VR r30_0 [⟨some 4, .assign (.const (.int .i64 0)), 24, none⟩] := vR rfl
@[push_cast] theorem vr30_1 : VR r30_1 [⟨some 7, .move (.tmp 0), 23, none⟩, ⟨some 8, .move (.tmp 1), 9, none⟩, ⟨some 9, .call ⟨.value (.func 31), #[(.tmp 7), (.tmp 8), (.const (.bool true))], #[23, 9, 4]⟩, 24, none⟩, ⟨some 5, .assign (.tmp 9), 24, none⟩] := vR rfl
@[push_cast] theorem vr30_2 : VR r30_2 [⟨some 10, .move (.tmp 5), 24, none⟩, ⟨some 11, .binOp .neq 24 (.tmp 10) (.const (.int .i64 0)) 24, 4, none⟩] := vR rfl
@[push_cast] theorem vr30_3 : VR r30_3 [⟨some 12, .move (.tmp 5), 24, none⟩, ⟨some 4, .assign (.tmp 12), 24, none⟩] := vR rfl
@[push_cast] theorem vr30_4 : VR r30_4 [⟨some 13, .move (.tmp 0), 23, none⟩, ⟨some 14, .call ⟨.value (.func 32), #[.tmp 13], #[23]⟩, 24, none⟩, ⟨some 6, .assign (.tmp 14), 24, none⟩] := vR rfl
@[push_cast] theorem vr30_5 : VR r30_5 [⟨some 15, .move (.tmp 6), 24, none⟩, ⟨some 16, .binOp .neq 24 (.tmp 15) (.const (.int .i64 0)) 24, 4, none⟩] := vR rfl
@[push_cast] theorem vr30_6 : VR r30_6 [⟨some 17, .move (.tmp 6), 24, none⟩, ⟨some 4, .assign (.tmp 17), 24, none⟩] := vR rfl
@[push_cast] theorem vr30_7 : VR r30_7 [⟨some 18, .move (.tmp 0), 23, none⟩, ⟨some 19, .nilCheck (.tmp 18), 0, none⟩, ⟨some 20, .fieldAddr 57 (.tmp 19) 2, 0, none⟩, ⟨some 21, .load 55 (.tmp 20), 55, none⟩, ⟨some 22, .move (.tmp 1), 9, none⟩, ⟨none, .call ⟨.builtin .delete, #[.tmp 21, .tmp 22], #[55, 9]⟩, 0, none⟩] := vR rfl
@[push_cast] theorem vr30_8 : VR r30_8 [⟨some 4, .assign (.const (.int .i64 0)), 24, none⟩] := vR rfl
/-! 31 (*columbary/vault.Vault).may (params #[23, 9, 4], results #[(.tmp 6)], 30 slots) -/
def r31_0 : List VOp :=
  [⟨some 6, .assign (.const (.int .i64 0)), 24, none⟩]
def r31_1 : List VOp :=
  [mv 9 0 23,
   ⟨some 10, .binOp .eql 23 (.tmp 9) (.const (.pointer none)) 23, 4, none⟩]
def r31_2 : List VOp :=
  [⟨some 6, .assign (.const (.int .i64 1)), 24, none⟩]
def r31_3 : List VOp :=
  [mv 12 0 23,
   ⟨some 13, .nilCheck (.tmp 12), 0, none⟩,
   fad 14 57 13 2,
   lda 15 55 14,
   mv 16 1 9,
   ⟨some 17, .lookup 55 (.tmp 15) (.tmp 16) true, 62, none⟩,
   mv 11 17 62,
   ext 18 11 0 61,
   ext 19 11 1 4,
   ⟨some 7, .alloc 61, 0, none⟩,
   ⟨none, .store 61 (.tmp 7) (.tmp 18), 0, none⟩,
   asg 8 19 4]
def r31_4 : List VOp :=
  [mv 20 1 9,
   ⟨some 21, .call ⟨.value (.func 45), #[.tmp 20], #[9]⟩, 4, none⟩,
   ⟨some 22, .unOp .not 4 (.tmp 21), 4, none⟩,
   mv 23 22 4,
   ⟨some 24, .move (.tmp 2), 4, some (23, false)⟩,
   ⟨some 25, .move (.tmp 24), 4, some (23, false)⟩,
   ⟨some 26, .move (.tmp 8), 4, some (25, true)⟩,
   ⟨some 27, .unOp .not 4 (.tmp 26), 4, some (25, true)⟩,
   ⟨some 28, .pick (.tmp 25) (.tmp 27) (.const (.bool false)), 4, some (23, false)⟩,
   ⟨some 29, .pick (.tmp 23) (.const (.bool true)) (.tmp 28), 4, none⟩]
def r31_5 : List VOp :=
  [⟨some 6, .assign (.const (.int .i64 31)), 24, none⟩]
def r31_6 : List VOp :=
  [⟨some 6, .assign (.const (.int .i64 0)), 24, none⟩]
def B31 : VC :=
  (.seq (.region r31_0) (.seq (.seq (.region r31_1) (.cond (.tmp 10) (.seq (.region r31_2) .ret) .skip)) (.seq (.seq (.region r31_3) (.seq (.region r31_4) (.cond (.tmp 29) (.seq (.region r31_5) .ret) .skip))) (.seq (.region r31_6) .ret))))
theorem code31 : ∃ c, Try.f31.body = some c ∧ abs Try.f31.ntmps c = B31 := ⟨_, rfl, by kernel_rfl⟩
theorem hb31 : HasBody Try.prog 31 := hasBody_of Try.func31 (by kernel_rfl)
theorem res31 : Try.f31.results = #[(.tmp 6)] := rfl
theorem enter31 {w : World} {R : Value → World → Prop} (x0 x1 x2 : Value) (h : vc Try.prog B31 (retK Try.prog #[(.tmp 6)] R) [] (initEnv [x0, x1, x2] 0) w) : FnC Try.prog 31 #[x0, x1, x2] w R := by
  obtain ⟨c, h1, h2⟩ := code31
  exact hb31.fn (ret_of_vc mixed Try.func31 h1 (Nat.le_of_ble_eq_true rfl) B31 h2 h)
@[push_cast] theorem vr31_0 : VR r31_0 [⟨some 6, .assign (.const (.int .i64 0)), 24, none⟩] := vR rfl
@[push_cast] theorem vr31_1 : VR r31_1 [⟨some 9, .move (.tmp 0), 23, none⟩, ⟨some 10, .binOp .eql 23 (.tmp 9) (.const (.pointer none)) 23, 4, none⟩] := vR rfl
@[push_cast] theorem vr31_2 : VR r31_2 [⟨some 6, .assign (.const (.int .i64 1)), 24, none⟩] := vR rfl
@[push_cast] theorem vr31_3 : VR r31_3 [⟨some 12, .move (.tmp 0), 23, none⟩, ⟨some 13, .nilCheck (.tmp 12), 0, none⟩, ⟨some 14, .fieldAddr 57 (.tmp 13) 2, 0, none⟩, ⟨some 15, .load 55 (.tmp 14), 55, none⟩, ⟨some 16, .move (.tmp 1), 9, none⟩, ⟨some 17, .lookup 55 (.tmp 15) (.tmp 16) true, 62, none⟩, ⟨some 11, .move (.tmp 17), 62, none⟩, ⟨some 18, .extract (.tmp 11) 0, 61, none⟩, ⟨some 19, .extract (.tmp 11) 1, 4, none⟩, ⟨some 7, .alloc 61, 0, none⟩, ⟨none, .store 61 (.tmp 7) (.tmp 18), 0, none⟩, ⟨some 8, .assign (.tmp 19), 4, none⟩] := vR rfl
@[push_cast] theorem vr31_4 : VR r31_4 [⟨some 20, .move (.tmp 1), 9, none⟩, ⟨some 21, .call ⟨.value (.func 45), #[.tmp 20], #[9]⟩, 4, none⟩, ⟨some 22, .unOp .not 4 (.tmp 21), 4, none⟩, ⟨some 23, .move (.tmp 22), 4, none⟩, ⟨some 24, .move (.tmp 2), 4, some (23, false)⟩, ⟨some 25, .move (.tmp 24), 4, some (23, false)⟩, ⟨some 26, .move (.tmp 8), 4, some (25, true)⟩, ⟨some 27, .unOp .not 4 (.tmp 26), 4, some (25, true)⟩, ⟨some 28, .pick (.tmp 25) (.tmp 27) (.const (.bool false)), 4, some (23, false)⟩, ⟨some 29, .pick (.tmp 23) (.const (.bool true)) (.tmp 28), 4, none⟩] := vR rfl
@[push_cast] theorem vr31_5 : VR r31_5 [⟨some 6, .assign (.const (.int .i64 31)), 24, none⟩] := vR rfl
@[push_cast] theorem vr31_6 : VR r31_6 [⟨some 6, .assign (.const (.int .i64 0)), 24, none⟩] := vR rfl
/-! 32 (*columbary/vault.Vault).burns (params #[23], results #[(.tmp 2)], 20 slots) -/
def r32_0 : List VOp :=
  [⟨some 2, .assign (.const (.int .i64 0)), 24, none⟩]
def r32_1 : List VOp :=
  [mv 3 0 23,
   ⟨some 4, .nilCheck (.tmp 3), 0, none⟩,
   fad 5 57 4 1,
   lda 6 3 5,
   ⟨some 7, .binOp .gtr 3 (.tmp 6) (.const (.int .i64 0)) 3, 4, none⟩]
def r32_2 : List VOp :=
  [mv 8 0 23,
   ⟨some 9, .nilCheck (.tmp 8), 0, none⟩,
   fad 10 57 9 1,
   lda 11 3 10,
   ⟨some 12, .binOp .sub 3 (.tmp 11) (.const (.int .i64 1)) 3, 3, none⟩,
   ⟨some 13, .nilCheck (.tmp 8), 0, none⟩,
   fad 14 57 13 1,
   ⟨none, .store 3 (.tmp 14) (.tmp 12), 0, none⟩]
def r32_3 : List VOp :=
  [mv 15 0 23,
   ⟨some 16, .nilCheck (.tmp 15), 0, none⟩,
   fad 17 57 16 1,
   lda 18 3 17,
   ⟨some 19, .binOp .eql 3 (.tmp 18) (.const (.int .i64 0)) 3, 4, none⟩]
def r32_4 : List VOp :=
  [⟨some 2, .assign (.const (.int .i64 272)), 24, none⟩]
def r32_5 : List VOp :=
  [⟨some 2, .assign (.const (.int .i64 0)), 24, none⟩]
def B32 : VC :=
  (.seq (.region r32_0) (.seq (.seq (.region r32_1) (.cond (.tmp 7) (.region r32_2) .skip)) (.seq (.seq (.region r32_3) (.cond (.tmp 19) (.seq (.region r32_4) .ret) .skip)) (.seq (.region r32_5) .ret))))
theorem code32 : ∃ c, Try.f32.body = some c ∧ abs Try.f32.ntmps c = B32 := ⟨_, rfl, by kernel_rfl⟩
theorem hb32 : HasBody Try.prog 32 := hasBody_of Try.func32 (by kernel_rfl)
theorem res32 : Try.f32.results = #[(.tmp 2)] := rfl
theorem enter32 {w : World} {R : Value → World → Prop} (x0 : Value) (h : vc Try.prog B32 (retK Try.prog #[(.tmp 2)] R) [] (initEnv [x0] 0) w) : FnC Try.prog 32 #[x0] w R := by
  obtain ⟨c, h1, h2⟩ := code32
  exact hb32.fn (ret_of_vc mixed Try.func32 h1 (Nat.le_of_ble_eq_true rfl) B32 h2 h)
@[push_cast] theorem vr32_0 : VR r32_0 [⟨some 2, .assign (.const (.int .i64 0)), 24, none⟩] := vR rfl
@[push_cast] theorem vr32_1 : VR r32_1 [⟨some 3, .move (.tmp 0), 23, none⟩, ⟨some 4, .nilCheck (.tmp 3), 0, none⟩, ⟨some 5, .fieldAddr 57 (.tmp 4) 1, 0, none⟩, ⟨some 6, .load 3 (.tmp 5), 3, none⟩, ⟨some 7, .binOp .gtr 3 (.tmp 6) (.const (.int .i64 0)) 3, 4, none⟩] := vR rfl
@[push_cast] theorem vr32_2 : VR r32_2 [⟨some 8, .move (.tmp 0), 23, none⟩, ⟨some 9, .nilCheck (.tmp 8), 0, none⟩, ⟨some 10, .fieldAddr 57 (.tmp 9) 1, 0, none⟩, ⟨some 11, .load 3 (.tmp 10), 3, none⟩, ⟨some 12, .binOp .sub 3 (.tmp 11) (.const (.int .i64 1)) 3, 3, none⟩, ⟨some 13, .nilCheck (.tmp 8), 0, none⟩, ⟨some 14, .fieldAddr 57 (.tmp 13) 1, 0, none⟩, ⟨none, .store 3 (.tmp 14) (.tmp 12), 0, none⟩] := vR rfl
@[push_cast] theorem vr32_3 : VR r32_3 [⟨some 15, .move (.tmp 0), 23, none⟩, ⟨some 16, .nilCheck (.tmp 15), 0, none⟩, ⟨some 17, .fieldAddr 57 (.tmp 16) 1, 0, none⟩, ⟨some 18, .load 3 (.tmp 17), 3, none⟩, ⟨some 19, .binOp .eql 3 (.tmp 18) (.const (.int .i64 0)) 3, 4, none⟩] := vR rfl
@[push_cast] theorem vr32_4 : VR r32_4 [⟨some 2, .assign (.const (.int .i64 272)), 24, none⟩] := vR rfl
@[push_cast] theorem vr32_5 : VR r32_5 [⟨some 2, .assign (.const (.int .i64 0)), 24, none⟩] := vR rfl
/-! 33 slices.Concat[[]byte,byte] (params #[78], results #[(.tmp 2)], 36 slots) -/
def W33_0 : List Nat := [3, 5, 11, 12, 13, 14, 15, 16, 17, 18, 19, 20, 21, 22]
@[push_cast] theorem W33_0_def : W33_0 = [3, 5, 11, 12, 13, 14, 15, 16, 17, 18, 19, 20, 21, 22] := mk_eq rfl
def W33_1 : List Nat := [6, 8, 27, 28, 29, 30, 31, 32, 33, 34]
@[push_cast] theorem W33_1_def : W33_1 = [6, 8, 27, 28, 29, 30, 31, 32, 33, 34] := mk_eq rfl
def r33_0 : List VOp :=
  [⟨some 2, .assign (.const (.slice none 0 0)), 22, none⟩]
def r33_1 : List VOp :=
  [⟨some 3, .assign (.const (.int .i64 0)), 3, none⟩]
def r33_2 : List VOp :=
  [mv 9 0 78,
   ⟨some 10, .call ⟨.builtin .len, #[.tmp 9], #[78]⟩, 3, none⟩,
   ⟨some 11, .move (.const (.int .i64 0)), 3, none⟩]
def r33_3 : List VOp :=
  [⟨some 12, .binOp .lss 3 (.tmp 11) (.tmp 10) 3, 0, none⟩]
def r33_4 : List VOp :=
  [iad 13 78 9 11,
   lda 14 22 13,
   asg 5 14 22]
def r33_5 : List VOp :=
  [mv 15 3 3,
   mv 16 5 22,
   ⟨some 17, .call ⟨.builtin .len, #[.tmp 16], #[22]⟩, 3, none⟩,
   ⟨some 18, .binOp .add 3 (.tmp 15) (.tmp 17) 3, 3, none⟩,
   asg 3 18 3]
def r33_6 : List VOp :=
  [mv 19 3 3,
   ⟨some 20, .binOp .lss 3 (.tmp 19) (.const (.int .i64 0)) 3, 4, none⟩]
def r33_7 : List VOp :=
  [⟨some 21, .makeInterface 9 (.const (.string { data := #[108, 101, 110, 32, 111, 117, 116, 32, 111, 102, 32, 114, 97, 110, 103, 101] })), 20, none⟩,
   ⟨none, .panic (.tmp 21), 0, none⟩]
def r33_8 : List VOp :=
  [⟨some 22, .binOp .add 3 (.tmp 11) (.const (.int .i64 1)) 3, 3, none⟩,
   mv 11 22 3]
def r33_9 : List VOp :=
  [mv 23 3 3,
   ⟨some 24, .call ⟨.value (.func 46), #[(.const (.slice none 0 0)), .tmp 23], #[22, 3]⟩, 22, none⟩,
   asg 6 24 22]
def r33_10 : List VOp :=
  [mv 25 0 78,
   ⟨some 26, .call ⟨.builtin .len, #[.tmp 25], #[78]⟩, 3, none⟩,
   ⟨some 27, .move (.const (.int .i64 0)), 3, none⟩]
def r33_11 : List VOp :=
  [⟨some 28, .binOp .lss 3 (.tmp 27) (.tmp 26) 3, 0, none⟩]
def r33_12 : List VOp :=
  [iad 29 78 25 27,
   lda 30 22 29,
   asg 8 30 22]
def r33_13 : List VOp :=
  [mv 31 6 22,
   mv 32 8 22,
   ⟨some 33, .call ⟨.builtin .append, #[.tmp 31, .tmp 32], #[22, 22]⟩, 22, none⟩,
   asg 6 33 22]
def r33_14 : List VOp :=
  [⟨some 34, .binOp .add 3 (.tmp 27) (.const (.int .i64 1)) 3, 3, none⟩,
   mv 27 34 3]
def r33_15 : List VOp :=
  [mv 35 6 22,
   asg 2 35 22]
def B33 : VC :=
  (.seq (.region r33_0) (.seq (.region r33_1) (.seq (.seq (.region r33_2) (.block 0 (.loop (.seq (.region r33_3) (.seq (.cond (.tmp 12) .skip (.exit 0)) (.seq (.block 1 (.seq (.region r33_4) (.seq (.region r33_5) (.seq (.region r33_6) (.cond (.tmp 20) (.region r33_7) .skip))))) (.region r33_8))))))) (.seq (.region r33_9) (.seq (.seq (.region r33_10) (.block 2 (.loop (.seq (.region r33_11) (.seq (.cond (.tmp 28) .skip (.exit 2)) (.seq (.block 3 (.seq (.region r33_12) (.region r33_13))) (.region r33_14))))))) (.seq (.region r33_15) .ret))))))
theorem code33 : ∃ c, Try.f33.body = some c ∧ abs Try.f33.ntmps c = B33 := ⟨_, rfl, by kernel_rfl⟩
theorem hb33 : HasBody Try.prog 33 := hasBody_of Try.func33 (by kernel_rfl)
theorem res33 : Try.f33.results = #[(.tmp 2)] := rfl
theorem enter33 {w : World} {R : Value → World → Prop} (x0 : Value) (h : vc Try.prog B33 (retK Try.prog #[(.tmp 2)] R) [] (initEnv [x0] 0) w) : FnC Try.prog 33 #[x0] w R := by
  obtain ⟨c, h1, h2⟩ := code33
  exact hb33.fn (ret_of_vc mixed Try.func33 h1 (Nat.le_of_ble_eq_true rfl) B33 h2 h)
@[push_cast] theorem vr33_0 : VR r33_0 [⟨some 2, .assign (.const (.slice none 0 0)), 22, none⟩] := vR rfl
@[push_cast] theorem vr33_1 : VR r33_1 [⟨some 3, .assign (.const (.int .i64 0)), 3, none⟩] := vR rfl
@[push_cast] theorem vr33_2 : VR r33_2 [⟨some 9, .move (.tmp 0), 78, none⟩, ⟨some 10, .call ⟨.builtin .len, #[.tmp 9], #[78]⟩, 3, none⟩, ⟨some 11, .move (.const (.int .i64 0)), 3, none⟩] := vR rfl
@[push_cast] theorem vr33_3 : VR r33_3 [⟨some 12, .binOp .lss 3 (.tmp 11) (.tmp 10) 3, 0, none⟩] := vR rfl
@[push_cast] theorem vr33_4 : VR r33_4 [⟨some 13, .indexAddr 78 (.tmp 9) (.tmp 11), 0, none⟩, ⟨some 14, .load 22 (.tmp 13), 22, none⟩, ⟨some 5, .assign (.tmp 14), 22, none⟩] := vR rfl
@[push_cast] theorem vr33_5 : VR r33_5 [⟨some 15, .move (.tmp 3), 3, none⟩, ⟨some 16, .move (.tmp 5), 22, none⟩, ⟨some 17, .call ⟨.builtin .len, #[.tmp 16], #[22]⟩, 3, none⟩, ⟨some 18, .binOp .add 3 (.tmp 15) (.tmp 17) 3, 3, none⟩, ⟨some 3, .assign (.tmp 18), 3, none⟩] := vR rfl
@[push_cast] theorem vr33_6 : VR r33_6 [⟨some 19, .move (.tmp 3), 3, none⟩, ⟨some 20, .binOp .lss 3 (.tmp 19) (.const (.int .i64 0)) 3, 4, none⟩] := vR rfl
@[push_cast] theorem vr33_7 : VR r33_7 [⟨some 21, .makeInterface 9 (.const (.string { data := #[108, 101, 110, 32, 111, 117, 116, 32, 111, 102, 32, 114, 97, 110, 103, 101] })), 20, none⟩, ⟨none, .panic (.tmp 21), 0, none⟩] := vR rfl
@[push_cast] theorem vr33_8 : VR r33_8 [⟨some 22, .binOp .add 3 (.tmp 11) (.const (.int .i64 1)) 3, 3, none⟩, ⟨some 11, .move (.tmp 22), 3, none⟩] := vR rfl
@[push_cast] theorem vr33_9 : VR r33_9 [⟨some 23, .move (.tmp 3), 3, none⟩, ⟨some 24, .call ⟨.value (.func 46), #[(.const (.slice none 0 0)), .tmp 23], #[22, 3]⟩, 22, none⟩, ⟨some 6, .assign (.tmp 24), 22, none⟩] := vR rfl
@[push_cast] theorem vr33_10 : VR r33_10 [⟨some 25, .move (.tmp 0), 78, none⟩, ⟨some 26, .call ⟨.builtin .len, #[.tmp 25], #[78]⟩, 3, none⟩, ⟨some 27, .move (.const (.int .i64 0)), 3, none⟩] := vR rfl
@[push_cast] theorem vr33_11 : VR r33_11 [⟨some 28, .binOp .lss 3 (.tmp 27) (.tmp 26) 3, 0, none⟩] := vR rfl
@[push_cast] theorem vr33_12 : VR r33_12 [⟨some 29, .indexAddr 78 (.tmp 25) (.tmp 27), 0, none⟩, ⟨some 30, .load 22 (.tmp 29), 22, none⟩, ⟨some 8, .assign (.tmp 30), 22, none⟩] := vR rfl
@[push_cast] theorem vr33_13 : VR r33_13 [⟨some 31, .move (.tmp 6), 22, none⟩, ⟨some 32, .move (.tmp 8), 22, none⟩, ⟨some 33, .call ⟨.builtin .append, #[.tmp 31, .tmp 32], #[22, 22]⟩, 22, none⟩, ⟨some 6, .assign (.tmp 33), 22, none⟩] := vR rfl
@[push_cast] theorem vr33_14 : VR r33_14 [⟨some 34, .binOp .add 3 (.tmp 27) (.const (.int .i64 1)) 3, 3, none⟩, ⟨some 27, .move (.tmp 34), 3, none⟩] := vR rfl
@[push_cast] theorem vr33_15 : VR r33_15 [⟨some 35, .move (.tmp 6), 22, none⟩, ⟨some 2, .assign (.tmp 35), 22, none⟩] := vR rfl
/-! 34 bytes.Clone (params #[22], results #[(.tmp 2)], 8 slots) -/
def r34_0 : List VOp :=
  [⟨some 2, .assign (.const (.slice none 0 0)), 22, none⟩]
def r34_1 : List VOp :=
  [mv 3 0 22,
   ⟨some 4, .binOp .eql 22 (.tmp 3) (.const (.slice none 0 0)) 22, 4, none⟩]
def r34_2 : List VOp :=
  [⟨some 2, .assign (.const (.slice none 0 0)), 22, none⟩]
def r34_3 : List VOp :=
  [⟨some 5, .buildSlice 22 0 #[], 22, none⟩,
   mv 6 0 22,
   ⟨some 7, .call ⟨.builtin .append, #[.tmp 5, .tmp 6], #[22, 22]⟩, 22, none⟩,
   asg 2 7 22]
def B34 : VC :=
  (.seq (.region r34_0) (.seq (.seq (.region r34_1) (.cond (.tmp 4) (.seq (.region r34_2) .ret) .skip)) (.seq (.region r34_3) .ret)))
theorem code34 : ∃ c, Try.f34.body = some c ∧ abs Try.f34.ntmps c = B34 := ⟨_, rfl, by kernel_rfl⟩
theorem hb34 : HasBody Try.prog 34 := hasBody_of Try.func34 (by kernel_rfl)
theorem res34 : Try.f34.results = #[(.tmp 2)] := rfl
theorem enter34 {w : World} {R : Value → World → Prop} (x0 : Value) (h : vc Try.prog B34 (retK Try.prog #[(.tmp 2)] R) [] (initEnv [x0] 0) w) : FnC Try.prog 34 #[x0] w R := by
  obtain ⟨c, h1, h2⟩ := code34
  exact hb34.fn (ret_of_vc mixed Try.func34 h1 (Nat.le_of_ble_eq_true rfl) B34 h2 h)
@[push_cast] theorem vr34_0 : VR r34_0 [⟨some 2, .assign (.const (.slice none 0 0)), 22, none⟩] := vR rfl
@[push_cast] theorem vr34_1 : VR r34_1 [⟨some 3, .move (.tmp 0), 22, none⟩, ⟨some 4, .binOp .eql 22 (.tmp 3) (.const (.slice none 0 0)) 22, 4, none⟩] := vR rfl
@[push_cast] theorem vr34_2 : VR r34_2 [⟨some 2, .assign (.const (.slice none 0 0)), 22, none⟩] := vR rfl
@[push_cast] theorem vr34_3 : VR r34_3 [⟨some 5, .buildSlice 22 0 #[], 22, none⟩, ⟨some 6, .move (.tmp 0), 22, none⟩, ⟨some 7, .call ⟨.builtin .append, #[.tmp 5, .tmp 6], #[22, 22]⟩, 22, none⟩, ⟨some 2, .assign (.tmp 7), 22, none⟩] := vR rfl
/-! 45 columbary/vault.named (params #[9], results #[(.tmp 2)], 15 slots) -/
def r45_0 : List VOp :=
  [⟨some 2, .assign (.const (.bool false)), 4, none⟩]
def r45_1 : List VOp :=
  [mv 3 0 9,
   ⟨some 4, .binOp .neq 9 (.tmp 3) (.const (.string { data := #[] })) 9, 4, none⟩,
   mv 5 4 4,
   ⟨some 6, .move (.tmp 0), 9, some (5, true)⟩,
   ⟨some 7, .call ⟨.builtin .len, #[.tmp 6], #[9]⟩, 3, some (5, true)⟩,
   ⟨some 8, .binOp .leq 3 (.tmp 7) (.const (.int .i64 12)) 3, 4, some (5, true)⟩,
   ⟨some 9, .pick (.tmp 5) (.tmp 8) (.const (.bool false)), 4, none⟩,
   mv 10 9 4,
   ⟨some 11, .move (.tmp 0), 9, some (10, true)⟩,
   ⟨some 12, .call ⟨.value (.func 55), #[(.tmp 11), (.func 56)], #[9, 86]⟩, 4, some (10, true)⟩,
   ⟨some 13, .unOp .not 4 (.tmp 12), 4, some (10, true)⟩,
   ⟨some 14, .pick (.tmp 10) (.tmp 13) (.const (.bool false)), 4, none⟩,
   asg 2 14 4]
def B45 : VC :=
  (.seq (.region r45_0) (.seq (.region r45_1) .ret))
theorem code45 : ∃ c, Try.f45.body = some c ∧ abs Try.f45.ntmps c = B45 := ⟨_, rfl, by kernel_rfl⟩
theorem hb45 : HasBody Try.prog 45 := hasBody_of Try.func45 (by kernel_rfl)
theorem res45 : Try.f45.results = #[(.tmp 2)] := rfl
theorem enter45 {w : World} {R : Value → World → Prop} (x0 : Value) (h : vc Try.prog B45 (retK Try.prog #[(.tmp 2)] R) [] (initEnv [x0] 0) w) : FnC Try.prog 45 #[x0] w R := by
  obtain ⟨c, h1, h2⟩ := code45
  exact hb45.fn (ret_of_vc mixed Try.func45 h1 (Nat.le_of_ble_eq_true rfl) B45 h2 h)
@[push_cast] theorem vr45_0 : VR r45_0 [⟨some 2, .assign (.const (.bool false)), 4, none⟩] := vR rfl
@[push_cast] theorem vr45_1 : VR r45_1 [⟨some 3, .move (.tmp 0), 9, none⟩, ⟨some 4, .binOp .neq 9 (.tmp 3) (.const (.string { data := #[] })) 9, 4, none⟩, ⟨some 5, .move (.tmp 4), 4, none⟩, ⟨some 6, .move (.tmp 0), 9, some (5, true)⟩, ⟨some 7, .call ⟨.builtin .len, #[.tmp 6], #[9]⟩, 3, some (5, true)⟩, ⟨some 8, .binOp .leq 3 (.tmp 7) (.const (.int .i64 12)) 3, 4, some (5, true)⟩, ⟨some 9, .pick (.tmp 5) (.tmp 8) (.const (.bool false)), 4, none⟩, ⟨some 10, .move (.tmp 9), 4, none⟩, ⟨some 11, .move (.tmp 0), 9, some (10, true)⟩, ⟨some 12, .call ⟨.value (.func 55), #[(.tmp 11), (.func 56)], #[9, 86]⟩, 4, some (10, true)⟩, ⟨some 13, .unOp .not 4 (.tmp 12), 4, some (10, true)⟩, ⟨some 14, .pick (.tmp 10) (.tmp 13) (.const (.bool false)), 4, none⟩, ⟨some 2, .assign (.tmp 14), 4, none⟩] := vR rfl
/-! 46 slices.Grow[[]byte,byte] (params #[22, 3], results #[(.tmp 4)], 27 slots) -/
def r46_0 : List VOp :=
  [⟨some 4, .assign (.const (.slice none 0 0)), 22, none⟩]
def r46_1 : List VOp :=
  [mv 5 1 3,
   ⟨some 6, .binOp .lss 3 (.tmp 5) (.const (.int .i64 0)) 3, 4, none⟩]
def r46_2 : List VOp :=
  [⟨some 7, .makeInterface 9 (.const (.string { data := #[99, 97, 110, 110, 111, 116, 32, 98, 101, 32, 110, 101, 103, 97, 116, 105, 118, 101] })), 20, none⟩,
   ⟨none, .panic (.tmp 7), 0, none⟩]
def r46_3 : List VOp :=
  [mv 8 1 3,
   mv 9 0 22,
   ⟨some 10, .call ⟨.builtin .cap, #[.tmp 9], #[22]⟩, 3, none⟩,
   mv 11 0 22,
   ⟨some 12, .call ⟨.builtin .len, #[.tmp 11], #[22]⟩, 3, none⟩,
   ⟨some 13, .binOp .sub 3 (.tmp 10) (.tmp 12) 3, 3, none⟩,
   ⟨some 14, .binOp .sub 3 (.tmp 8) (.tmp 13) 3, 3, none⟩,
   asg 1 14 3]
def r46_4 : List VOp :=
  [mv 15 1 3,
   ⟨some 16, .binOp .gtr 3 (.tmp 15) (.const (.int .i64 0)) 3, 4, none⟩]
def r46_5 : List VOp :=
  [mv 17 0 22,
   mv 18 0 22,
   ⟨some 19, .call ⟨.builtin .cap, #[.tmp 18], #[22]⟩, 3, none⟩,
   ⟨some 20, .slice 22 (.tmp 17) none (some (.tmp 19)) none, 22, none⟩,
   mv 21 1 3,
   ⟨some 22, .call ⟨.builtin .append, #[.tmp 20, .tmp 21], #[22, 3]⟩, 22, none⟩,
   mv 23 0 22,
   ⟨some 24, .call ⟨.builtin .len, #[.tmp 23], #[22]⟩, 3, none⟩,
   ⟨some 25, .slice 22 (.tmp 22) none (some (.tmp 24)) none, 22, none⟩,
   asg 0 25 22]
def r46_6 : List VOp :=
  [mv 26 0 22,
   asg 4 26 22]
def B46 : VC :=
  (.seq (.region r46_0) (.seq (.seq (.region r46_1) (.cond (.tmp 6) (.region r46_2) .skip)) (.seq (.seq (.region r46_3) (.seq (.region r46_4) (.cond (.tmp 16) (.region r46_5) .skip))) (.seq (.region r46_6) .ret))))
theorem code46 : ∃ c, Try.f46.body = some c ∧ abs Try.f46.ntmps c = B46 := ⟨_, rfl, by kernel_rfl⟩
theorem hb46 : HasBody Try.prog 46 := hasBody_of Try.func46 (by kernel_rfl)
theorem res46 : Try.f46.results = #[(.tmp 4)] := rfl
theorem enter46 {w : World} {R : Value → World → Prop} (x0 x1 : Value) (h : vc Try.prog B46 (retK Try.prog #[(.tmp 4)] R) [] (initEnv [x0, x1] 0) w) : FnC Try.prog 46 #[x0, x1] w R := by
  obtain ⟨c, h1, h2⟩ := code46
  exact hb46.fn (ret_of_vc mixed Try.func46 h1 (Nat.le_of_ble_eq_true rfl) B46 h2 h)
@[push_cast] theorem vr46_0 : VR r46_0 [⟨some 4, .assign (.const (.slice none 0 0)), 22, none⟩] := vR rfl
@[push_cast] theorem vr46_1 : VR r46_1 [⟨some 5, .move (.tmp 1), 3, none⟩, ⟨some 6, .binOp .lss 3 (.tmp 5) (.const (.int .i64 0)) 3, 4, none⟩] := vR rfl
@[push_cast] theorem vr46_2 : VR r46_2 [⟨some 7, .makeInterface 9 (.const (.string { data := #[99, 97, 110, 110, 111, 116, 32, 98, 101, 32, 110, 101, 103, 97, 116, 105, 118, 101] })), 20, none⟩, ⟨none, .panic (.tmp 7), 0, none⟩] := vR rfl
@[push_cast] theorem vr46_3 : VR r46_3 [⟨some 8, .move (.tmp 1), 3, none⟩, ⟨some 9, .move (.tmp 0), 22, none⟩, ⟨some 10, .call ⟨.builtin .cap, #[.tmp 9], #[22]⟩, 3, none⟩, ⟨some 11, .move (.tmp 0), 22, none⟩, ⟨some 12, .call ⟨.builtin .len, #[.tmp 11], #[22]⟩, 3, none⟩, ⟨some 13, .binOp .sub 3 (.tmp 10) (.tmp 12) 3, 3, none⟩, ⟨some 14, .binOp .sub 3 (.tmp 8) (.tmp 13) 3, 3, none⟩, ⟨some 1, .assign (.tmp 14), 3, none⟩] := vR rfl
@[push_cast] theorem vr46_4 : VR r46_4 [⟨some 15, .move (.tmp 1), 3, none⟩, ⟨some 16, .binOp .gtr 3 (.tmp 15) (.const (.int .i64 0)) 3, 4, none⟩] := vR rfl
@[push_cast] theorem vr46_5 : VR r46_5 [⟨some 17, .move (.tmp 0), 22, none⟩, ⟨some 18, .move (.tmp 0), 22, none⟩, ⟨some 19, .call ⟨.builtin .cap, #[.tmp 18], #[22]⟩, 3, none⟩, ⟨some 20, .slice 22 (.tmp 17) none (some (.tmp 19)) none, 22, none⟩, ⟨some 21, .move (.tmp 1), 3, none⟩, ⟨some 22, .call ⟨.builtin .append, #[.tmp 20, .tmp 21], #[22, 3]⟩, 22, none⟩, ⟨some 23, .move (.tmp 0), 22, none⟩, ⟨some 24, .call ⟨.builtin .len, #[.tmp 23], #[22]⟩, 3, none⟩, ⟨some 25, .slice 22 (.tmp 22) none (some (.tmp 24)) none, 22, none⟩, ⟨some 0, .assign (.tmp 25), 22, none⟩] := vR rfl
@[push_cast] theorem vr46_6 : VR r46_6 [⟨some 26, .move (.tmp 0), 22, none⟩, ⟨some 4, .assign (.tmp 26), 22, none⟩] := vR rfl
/-! 56 columbary/vault.named$1 (params #[21], results #[(.tmp 2)], 6 slots) -/
def r56_0 : List VOp :=
  [⟨some 2, .assign (.const (.bool false)), 4, none⟩]
def r56_1 : List VOp :=
  [mv 3 0 21,
   ⟨some 4, .call { callee := (.value (.func 57)), args := #[(.const (.string { data := #[97, 98, 99, 100, 101, 102, 103, 104, 105, 106, 107, 108, 109, 110, 111, 112, 113, 114, 115, 116, 117, 118, 119, 120, 121, 122, 48, 49, 50, 51, 52, 53, 54, 55, 56, 57, 46] })), (.tmp 3)], argTypes := #[9, 21] }, 4, none⟩,
   ⟨some 5, .unOp .not 4 (.tmp 4), 4, none⟩,
   asg 2 5 4]
def B56 : VC :=
  (.seq (.region r56_0) (.seq (.region r56_1) .ret))
theorem code56 : ∃ c, Try.f56.body = some c ∧ abs Try.f56.ntmps c = B56 := ⟨_, rfl, by kernel_rfl⟩
theorem hb56 : HasBody Try.prog 56 := hasBody_of Try.func56 (by kernel_rfl)
theorem res56 : Try.f56.results = #[(.tmp 2)] := rfl
theorem enter56 {w : World} {R : Value → World → Prop} (x0 : Value) (h : vc Try.prog B56 (retK Try.prog #[(.tmp 2)] R) [] (initEnv [x0] 0) w) : FnC Try.prog 56 #[x0] w R := by
  obtain ⟨c, h1, h2⟩ := code56
  exact hb56.fn (ret_of_vc mixed Try.func56 h1 (Nat.le_of_ble_eq_true rfl) B56 h2 h)
@[push_cast] theorem vr56_0 : VR r56_0 [⟨some 2, .assign (.const (.bool false)), 4, none⟩] := vR rfl
@[push_cast] theorem vr56_1 : VR r56_1 [⟨some 3, .move (.tmp 0), 21, none⟩, ⟨some 4, .call { callee := (.value (.func 57)), args := #[(.const (.string { data := #[97, 98, 99, 100, 101, 102, 103, 104, 105, 106, 107, 108, 109, 110, 111, 112, 113, 114, 115, 116, 117, 118, 119, 120, 121, 122, 48, 49, 50, 51, 52, 53, 54, 55, 56, 57, 46] })), (.tmp 3)], argTypes := #[9, 21] }, 4, none⟩, ⟨some 5, .unOp .not 4 (.tmp 4), 4, none⟩, ⟨some 2, .assign (.tmp 5), 4, none⟩] := vR rfl
@[push_cast] theorem bsl22_0_CodesV {K : Value → World → Prop} {w : World}  : vBuildSlice Try.prog 22 0 #[] K w = K (.slice (some ⟨w.heap.size, 0, none⟩) 0 0) (w.alloc (.cells #[] 5)) :=
  vBuildSlice_ok Try.underlying22 ti5 (by kernel_rfl) (by decide)
@[push_cast] theorem bsl22_4_CodesV {K : Value → World → Prop} {w : World} (x0 : Int) (x1 : Int) (x2 : Int) (x3 : Int) : vBuildSlice Try.prog 22 4 #[(0, (.int .u8 x0)), (1, (.int .u8 x1)), (2, (.int .u8 x2)), (3, (.int .u8 x3))] K w = K (.slice (some ⟨w.heap.size, 0, none⟩) 4 4) (w.alloc (.cells #[(.int .u8 x0), (.int .u8 x1), (.int .u8 x2), (.int .u8 x3)] 5)) :=
  vBuildSlice_ok Try.underlying22 ti5 (by kernel_rfl) (by decide)
@[push_cast] theorem bsl78_2_CodesV {K : Value → World → Prop} {w : World} (x0o : Option Addr) (x0n x0c : Nat) (x1o : Option Addr) (x1n x1c : Nat) : vBuildSlice Try.prog 78 2 #[(0, (.slice x0o x0n x0c)), (1, (.slice x1o x1n x1c))] K w = K (.slice (some ⟨w.heap.size, 0, none⟩) 2 2) (w.alloc (.cells #[(.slice x0o x0n x0c), (.slice x1o x1n x1c)] 22)) :=
  vBuildSlice_ok Try.underlying78 ti22 (by kernel_rfl) (by decide)
@[push_cast] theorem bld57_0_1_2_CodesV {K : Value → World → Prop} {w : World} (x0 : Int) (x1 : Int) (x2 : Option Nat) : vBuild Try.prog 57 #[(0, (.int .i64 x0)), (1, (.int .i64 x1)), (2, (.map x2))] K w = K (.agg #[(.int .i64 x0), (.int .i64 x1), (.map x2)]) w :=
  vBuild_ok (by kernel_rfl)
@[push_cast] theorem bld61_0_1_CodesV {K : Value → World → Prop} {w : World} (x0o : Option Addr) (x0n x0c : Nat) (x1 : Int) : vBuild Try.prog 61 #[(0, (.slice x0o x0n x0c)), (1, (.int .i64 x1))] K w = K (.agg #[(.slice x0o x0n x0c), (.int .i64 x1)]) w :=
  vBuild_ok (by kernel_rfl)
end Go.Proofs.Ytmfcnooleejgmaa
end
