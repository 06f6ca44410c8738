/- Maps by texts: what the model's operations do to them, in plain lists of entries. -/
import Derived.Laws.IdiomMaps
import Derived.Maps.RangeRun
import Derived.Lib.ConvBytes
import Derived.Lib.AppendStr
import Derived.Laws.BytesArg
import Derived.Test.YtmfcnooleejgmaaChecked
import Derived.Test.YtmfcnooleejgmaaPartD
set_option linter.all false
section
namespace Go.Vc
open Go
/-- Maps by texts: entries. -/
abbrev Ent := ByteArray × Value × Nat
def mE (e : Ent) : MapEntry := { key := .string e.1, val := e.2.1, born := e.2.2 }
def mIdx (k : ByteArray) : List Ent → Nat → Option (Nat × Value)
  | [], _ => none
  | e :: l, i => if k == e.1 then some (i, e.2.1) else mIdx k l (i + 1)
theorem bytes_beq {a b : ByteArray} : (a == b) = true ↔ a = b := by
  constructor
  · intro h
    exact ByteArray.ext (eq_of_beq (show (a.data == b.data) = true from h))
  · rintro rfl
    exact beq_self_eq_true a.data
theorem modify_map {α β : Type} (g : α → β) (f : α → α) (f' : β → β) (h : ∀ x, f' (g x) = g (f x)) (l : List α) (j : Nat) : (l.map g).modify j f' = (l.modify j f).map g := by
  apply List.ext_getElem?
  intro i
  rw [List.getElem?_modify, List.getElem?_map, List.getElem?_map, List.getElem?_modify]
  cases l[i]? with
  | none => rfl
  | some x =>
    simp only [Option.map_some, Functor.map]
    split <;> simp [h]
theorem findNow_s (k : ByteArray) : ∀ (l : List Ent) (i : Nat), Instr.findNow .string (.string k) (l.map mE) i = some (mIdx k l i)
  | [], _ => rfl
  | e :: l, i => by
    simp only [List.map_cons, Instr.findNow, mE, Instr.sameNow, mIdx]
    by_cases h : (k == e.1) = true
    · simp [h]
    · have h' : (k == e.1) = false := by simpa using h
      simp only [h', Bool.false_eq_true, if_false]
      exact findNow_s k l (i + 1)
/-- A map lies in a block. -/
def MapB (w : World) (r : Nat) (l : List Ent) (c : Nat) : Prop := w.heap[r]? = some (.map (l.map mE).toArray c)
variable {P : Program} {w : World} {t kt et : TypeId} {r c : Nat} {l : List Ent}
theorem findKey_s (hk : P.underlying kt = some .string) (k : ByteArray) (l : List Ent) (w : World) : (Instr.findKey kt (.string k) (l.map mE)).run P w = .ok (mIdx k l 0) w := by
  simp [Instr.findKey, run_underlying hk, findNow_s, Result.andThen]
theorem checkKey_s (hk : P.underlying kt = some .string) (b : Bool) (k : ByteArray) (w : World) : (Instr.checkKey b 10000 kt (.string k)).run P w = .ok () w :=
  MapKept.run_checkKey hk (by first | exact ⟨_, rfl⟩ | simp [MapKept.IsKey]) b 9999
theorem stays_s (k : ByteArray) (w : World) : (Instr.keyThatStays (.string k) (.string k)).run P w = .ok (.string k) w := by
  have h : Instr.sameBits 10000 (.string k) (.string k) = true := by
    unfold Instr.sameBits
    exact bytes_beq.2 rfl
  unfold Instr.keyThatStays
  rw [h]
  simp
theorem run_lookup_s (ht : P.underlying t = some (.map kt et)) (hk : P.underlying kt = some .string) {z : Value} (hz : (zeroValue et).run P w = .ok z w) (hb : MapB w r l c) (k : ByteArray) (ok : Bool) :
    (Instr.lookup t (.map (some r)) (.string k) ok).run P w = .ok (match mIdx k l 0 with | some (_, v) => (if ok then .tuple #[v, .bool true] else v) | none => (if ok then .tuple #[z, .bool false] else z)) w := by
  have h1 := findKey_s hk k l w
  cases hm : mIdx k l 0 with
  | none => rw [hm] at h1; simp [Instr.lookup, run_underlying ht, MapKept.run_getObj_map hb, checkKey_s hk, h1, hz, Result.andThen]
  | some q => rw [hm] at h1; simp [Instr.lookup, run_underlying ht, MapKept.run_getObj_map hb, checkKey_s hk, h1, Result.andThen]
theorem run_makeMap (t : TypeId) : (Instr.makeMap t none).run P w = .ok (.map (some w.heap.size)) (w.alloc (.map #[] 0)) := by
  simp [Instr.makeMap, Result.andThen]
def mPut (k : ByteArray) (v : Value) (c : Nat) (l : List Ent) : List Ent := match mIdx k l 0 with
  | some (i, _) => l.modify i fun e => (k, v, e.2.2)
  | none => l ++ [(k, v, c)]
def mTick (k : ByteArray) (c : Nat) (l : List Ent) : Nat := match mIdx k l 0 with
  | some _ => c
  | none => c + 1
theorem mIdx_at {k : ByteArray} : ∀ {l : List Ent} {i j : Nat} {v : Value}, mIdx k l i = some (j, v) → ∃ n, i ≤ j ∧ ∃ h : j - i < l.length, l[j - i] = (k, v, n)
  | [], _, _, _, h => by simp [mIdx] at h
  | e :: l, i, j, v, h => by
    unfold mIdx at h
    split at h
    · rename_i hk
      simp only [Option.some.injEq, Prod.mk.injEq] at h
      obtain ⟨rfl, rfl⟩ := h
      have : k = e.1 := bytes_beq.1 hk
      exact ⟨e.2.2, Nat.le_refl _, by simp, by simp [this]⟩
    · obtain ⟨n, h1, h2, h3⟩ := mIdx_at h
      refine ⟨n, by omega, by simp only [List.length_cons]; omega, ?_⟩
      have e1 : j - i = (j - (i + 1)) + 1 := by omega
      simp only [e1, List.getElem_cons_succ]
      exact h3
def setB (w : World) (r : Nat) (o : Obj) : World := { w with heap := w.heap.setIfInBounds r o }
theorem run_update_s (ht : P.underlying t = some (.map kt et)) (hk : P.underlying kt = some .string) (hb : MapB w r l c) (k : ByteArray) (v : Value) :
    (Instr.mapUpdate t (.map (some r)) (.string k) v).run P w = .ok () (setB w r (.map ((mPut k v c l).map mE).toArray (mTick k c l))) := by
  have h1 := findKey_s hk k l w
  unfold mPut mTick
  cases hm : mIdx k l 0 with
  | none =>
    rw [hm] at h1
    simp [Instr.mapUpdate, run_underlying ht, MapKept.run_getObj_map hb, checkKey_s hk, h1, MapKept.run_setObj_map _ hb, Result.andThen, setB, mE]
  | some q =>
    obtain ⟨j, v0⟩ := q
    rw [hm] at h1
    obtain ⟨n, _, h2, h3⟩ := mIdx_at hm
    have h2' : j < l.length := h2
    have h3' : l[j] = (k, v0, n) := h3
    have hj : ((l.map mE).toArray)[j]? = some { key := .string k, val := v0, born := n } := by
      simp [h2', h3', mE]
    simp [Instr.mapUpdate, run_underlying ht, MapKept.run_getObj_map hb, checkKey_s hk, h1, h2', h3', mE, stays_s, MapKept.run_setObj_map _ hb, Result.andThen, setB]
    rw [modify_map mE (fun e => (k, v, e.2.2)) _ (fun _ => rfl)]
def mDel (k : ByteArray) (l : List Ent) : List Ent := match mIdx k l 0 with
  | some (i, _) => l.eraseIdx i
  | none => l
theorem eraseIdx_map {α β : Type} (g : α → β) : ∀ (l : List α) (j : Nat), (l.map g).eraseIdx j = (l.eraseIdx j).map g
  | [], _ => by simp
  | _ :: _, 0 => by simp
  | a :: l, j + 1 => by simp [eraseIdx_map g l j]
theorem run_delete_s {ty : TypeId} (ht : P.underlying t = some (.map kt et)) (hk : P.underlying kt = some .string) (hb : MapB w r l c) (k : ByteArray) (ts : Array TypeId) (hts : ts[0]? = some t) :
    (Builtin.delete_ ts ty #[.map (some r), .string k]).run P w = .ok (.tuple #[]) (setB w r (.map ((mDel k l).map mE).toArray c)) := by
  have h1 := findKey_s hk k l w
  unfold mDel
  cases hm : mIdx k l 0 with
  | none =>
    rw [hm] at h1
    simp [Builtin.delete_, hts, run_underlying ht, MapKept.run_getObj_map hb, checkKey_s hk, h1, MapKept.run_setObj_map _ hb, Result.andThen, setB]
  | some q =>
    obtain ⟨j, v0⟩ := q
    rw [hm] at h1
    obtain ⟨n, _, h2, h3⟩ := mIdx_at hm
    have h2' : j < l.length := h2
    simp [Builtin.delete_, hts, run_underlying ht, MapKept.run_getObj_map hb, checkKey_s hk, h1, MapKept.run_setObj_map _ hb, Result.andThen, setB]
    rw [← eraseIdx_map]
theorem run_next_s {ty : TypeId} {it since c0 : Nat} {seen : Array Nat} (hr : w.heap[it]? = some (.mapIter (some r) since seen c0)) (hb : MapB w r l c) (hold : ∀ e ∈ l, e.2.2 < since) (hsc : since ≤ c0) :
    ((∀ e ∈ l, seen.contains e.2.2 = true) ∧ (Instr.next (.pointer (some ⟨it, 0, none⟩)) false ty).run P w = .ok (.tuple #[.bool false]) w) ∨
    ∃ e ∈ l, seen.contains e.2.2 = false ∧ ∃ w1 : World, (w1 = w ∨ w1 = w.drew) ∧ (Instr.next (.pointer (some ⟨it, 0, none⟩)) false ty).run P w = .ok (.tuple #[.bool true, .string e.1, e.2.1]) (setB w1 it (.mapIter (some r) since (seen.push e.2.2) c)) := by
  rcases run_next_at (P := P) w ty it r since c0 seen _ c hr hb (by intro x hx; simp only [List.mem_map] at hx; obtain ⟨e, he, rfl⟩ := hx; exact hold e he) hsc with ⟨h1, h2⟩ | ⟨x, hx, w1, h1, h2⟩
  · left
    refine ⟨fun e he => ?_, h2⟩
    unfold leftOf at h1
    have h3 := Array.eq_empty_of_size_eq_zero h1
    rw [Array.filter_eq_empty_iff] at h3
    have := h3 (mE e) (by simp only [List.mem_toArray]; exact List.mem_map_of_mem he)
    simpa [mE] using this
  · right
    obtain ⟨h3, h4⟩ := mem_left hx
    simp only [List.mem_map] at h3
    obtain ⟨e, he, rfl⟩ := h3
    exact ⟨e, he, h4, w1, h1, h2⟩
end Go.Vc
end
section
namespace Go.Vc
open Go
section
variable {P : Program} {K : Value → World → Prop} {w : World} {σ : Env} {ty : TypeId}
def vLook (P : Program) (t : TypeId) (m k : Value) (ok : Bool) (K : Value → World → Prop) (w : World) : Prop := vcUp P K ((val (Instr.lookup t m k ok)).run P w)
def vUpd (P : Program) (t : TypeId) (m k x : Value) (K : Value → World → Prop) (w : World) : Prop := vcUp P K ((unt (Instr.mapUpdate t m k x)).run P w)
def vDel (P : Program) (ts : Array TypeId) (ty : TypeId) (xs : Array Value) (K : Value → World → Prop) (w : World) : Prop := vcUp P K ((val (Builtin.delete_ ts ty xs)).run P w)
def vRng (P : Program) (t : TypeId) (x : Value) (K : Value → World → Prop) (w : World) : Prop := vcUp P K ((val (Instr.range t x)).run P w)
def vNxt (P : Program) (it : Value) (s : Bool) (ty : TypeId) (K : Value → World → Prop) (w : World) : Prop := vcUp P K ((val (Instr.next it s ty)).run P w)
@[push_cast] theorem vcOp_lookup (t : TypeId) (x i : Operand) (ok : Bool) : vcOp P (.lookup t x i ok) ty σ w K = vLook P t (ev σ x) (ev σ i) ok K w := mk_eq rfl
@[push_cast] theorem vcOp_mapUpdate (t : TypeId) (m k x : Operand) : vcOp P (.mapUpdate t m k x) ty σ w K = vUpd P t (ev σ m) (ev σ k) (ev σ x) K w := mk_eq rfl
@[push_cast] theorem vcOp_range (t : TypeId) (x : Operand) : vcOp P (.range t x) ty σ w K = vRng P t (ev σ x) K w := mk_eq rfl
@[push_cast] theorem vcOp_next (x : Operand) (s : Bool) : vcOp P (.next x s) ty σ w K = vNxt P (ev σ x) s ty K w := mk_eq rfl
@[push_cast] theorem vcOp_delete (xs : Array Operand) (ts : Array TypeId) : vcOp P (.call { callee := .builtin .delete, args := xs, argTypes := ts }) ty σ w K = vDel P ts ty (xs.map (ev σ)) K w := mk_eq (by
  show vX P (.call { callee := .builtin .delete, args := xs, argTypes := ts }) ty σ w K = _
  unfold vX exe
  rw [run_maxmin .delete _ rfl]
  rfl)
@[push_cast] theorem vcOp_makeMap (t : TypeId) : vcOp P (.makeMap t none) ty σ w K = K (.map (some w.heap.size)) (w.alloc (.map #[] 0)) := mk_eq (by
  show vcUp P K ((val (Instr.makeMap t none)).run P w) = _
  rw [run_val_pure (run_makeMap t)]
  rfl)
variable {t kt et : TypeId} {r c : Nat} {l : List Ent}
def mGot (z : Value) (o : Option (Nat × Value)) (ok : Bool) : Value := match o with
  | some (_, v) => if ok then .tuple #[v, .bool true] else v
  | none => if ok then .tuple #[z, .bool false] else z
theorem vLook_of (ht : P.underlying t = some (.map kt et)) (hk : P.underlying kt = some .string) {z : Value} (hz : ∀ w, (zeroValue et).run P w = .ok z w) (hb : MapB w r l c) (k : ByteArray) (ok : Bool) (h : K (mGot z (mIdx k l 0) ok) w) : vLook P t (.map (some r)) (.string k) ok K w := by
  unfold vLook
  rw [run_val_pure (run_lookup_s ht hk (hz w) hb k ok)]
  exact h
theorem vUpd_of (ht : P.underlying t = some (.map kt et)) (hk : P.underlying kt = some .string) (hb : MapB w r l c) (k : ByteArray) (v : Value) (h : K undef (setB w r (.map ((mPut k v c l).map mE).toArray (mTick k c l)))) : vUpd P t (.map (some r)) (.string k) v K w := by
  unfold vUpd
  rw [run_unt (run_update_s ht hk hb k v)]
  exact h
theorem vDel_of {ts : Array TypeId} (hts : ts[0]? = some t) (ht : P.underlying t = some (.map kt et)) (hk : P.underlying kt = some .string) (hb : MapB w r l c) (k : ByteArray) (h : K (.tuple #[]) (setB w r (.map ((mDel k l).map mE).toArray c))) : vDel P ts ty #[.map (some r), .string k] K w := by
  unfold vDel
  rw [run_val_pure (run_delete_s ht hk hb k ts hts)]
  exact h
theorem vRng_of (ht : P.underlying t = some (.map kt et)) (hb : MapB w r l c) (h : K (.pointer (some ⟨w.heap.size, 0, none⟩)) (w.alloc (.mapIter (some r) c #[] c))) : vRng P t (.map (some r)) K w := by
  unfold vRng
  rw [run_val_pure (run_range_map w t kt et r _ c ht hb)]
  exact h
theorem vNxt_of {it since c0 : Nat} {seen : Array Nat} (hr : w.heap[it]? = some (.mapIter (some r) since seen c0)) (hb : MapB w r l c) (hold : ∀ e ∈ l, e.2.2 < since) (hsc : since ≤ c0)
    (h0 : (∀ e ∈ l, seen.contains e.2.2 = true) → K (.tuple #[.bool false]) w)
    (h1 : ∀ e ∈ l, seen.contains e.2.2 = false → ∀ w1 : World, (w1 = w ∨ w1 = w.drew) → K (.tuple #[.bool true, .string e.1, e.2.1]) (setB w1 it (.mapIter (some r) since (seen.push e.2.2) c))) : vNxt P (.pointer (some ⟨it, 0, none⟩)) false ty K w := by
  unfold vNxt
  rcases run_next_s (P := P) (ty := ty) hr hb hold hsc with ⟨a, b⟩ | ⟨e, he, a, w1, b, d⟩
  · rw [run_val_pure b]; exact h0 a
  · rw [run_val_pure d]; exact h1 e he a w1 b
end
end Go.Vc
namespace Go.Vc
section
variable {P : Program} {K : Value → World → Prop} {w : World} {σ : Env} {ty : TypeId}
def vEnt (P : Program) (it : Value) (K : Value → World → Prop) (w : World) : Prop := vcUp P K ((val (Instr.entry it)).run P w)
@[push_cast] theorem vcOp_entry (x : Operand) : vcOp P (.entry x) ty σ w K = vEnt P (ev σ x) K w := mk_eq rfl
theorem vEnt_of {r c since it : Nat} {l : List Ent} {seen : Array Nat} {e : Ent} (hr : w.heap[it]? = some (.mapIter (some r) since (seen.push e.2.2) c)) (hb : MapB w r l c) (he : e ∈ l) (hn : (l.map (·.2.2)).Nodup) (h : K (.tuple #[.string e.1, e.2.1]) w) : vEnt P (.pointer (some ⟨it, 0, none⟩)) K w := by
  unfold vEnt
  have h1 : (mE e) ∈ ((l.map mE).toArray).toList := by simp only [List.mem_map]; exact ⟨e, he, rfl⟩
  have h2 : ((((l.map mE).toArray).toList).map (·.born)).Nodup := by
    have : (((l.map mE).toArray).toList).map (·.born) = l.map (·.2.2) := by simp [mE]
    rw [this]; exact hn
  rw [run_val_pure (run_entry_at w it r since seen _ c (mE e) hr hb h1 h2)]
  exact h
end
/-- A map's block turned. -/
theorem chg_setB' {w : World} {r : Nat} (o : Obj) : (setB w r o).os = w.os ∧ (setB w r o).tape = w.tape ∧ (setB w r o).output = w.output ∧ (setB w r o).heap.size = w.heap.size ∧ ∀ k, k ≠ r → (setB w r o).heap[k]? = w.heap[k]? := by
  refine ⟨rfl, rfl, rfl, by simp [setB], fun k hk => ?_⟩
  simp [setB, Array.getElem?_setIfInBounds, Ne.symm hk]
theorem setB_at {w : World} {r : Nat} {o o' : Obj} (h : w.heap[r]? = some o') : (setB w r o).heap[r]? = some o := by
  have := (Array.getElem?_eq_some_iff.1 h).1
  simp [setB, Array.getElem?_setIfInBounds, this]
end Go.Vc
end
section
namespace Go.Vc
open Go.RowKit
/-! ### worlds that have only grown -/
theorem Later.size {w w' : World} (h : Later w w') : w.heap.size ≤ w'.heap.size := Below.size h
theorem Later.alloc {w w' : World} (h : Later w w') (o : Obj) : Later w (w'.alloc o) := Below.alloc h (Below.size h) o
theorem later_alloc (w : World) (o : Obj) : Later w (w.alloc o) := (Later.refl w).alloc o
theorem Later.setCell {w w' : World} (h : Later w w') {a : Addr} (ha : w.heap.size ≤ a.block) (v : Value) : Later w (w'.setCell a v) := Below.setCell h ha v
theorem Later.grown {w w1 w' : World} {row : Option Nat} (h : Later w w1) (hg : w1.grownBy w' row) (hr : ∀ k, row = some k → w.heap.size ≤ k) : Later w w' := Below.grown h hg (Below.size h) hr
theorem Later.below {w w' : World} {B : Nat} (h : Later w w') (hB : B ≤ w.heap.size) : Below B w w' := Below.mono h hB
theorem Later.frozen {w w' : World} (h : Later w w') {a : Addr} (ha : a.block < w.heap.size) : w'.frozen? a = w.frozen? a := Below.frozen h ha
theorem Later.heap {w w' : World} (h : Later w w') {b : Nat} (hb : b < w.heap.size) : w'.heap[b]? = w.heap[b]? := h.block b hb
/-! ### addresses -/
theorem addr_add_add (a : Addr) (m n : Nat) : (a.add m).add n = a.add (m + n) := by
  unfold Addr.add
  by_cases h1 : m = 0
  · subst h1; simp
  · by_cases h2 : n = 0
    · subst h2; simp [h1]
    · have : ¬ m + n = 0 := by omega
      simp [h1, h2, this, Nat.add_assoc]
theorem addr_add_block (a : Addr) (n : Nat) : (a.add n).block = a.block := by unfold Addr.add; split <;> rfl
theorem addr_add_eq (b o n : Nat) : (⟨b, o, none⟩ : Addr).add n = ⟨b, o + n, none⟩ := by unfold Addr.add; split <;> simp_all
theorem lt_of_cell {w : World} {a : Addr} {v : Value} (h : w.cell? a = some v) : a.block < w.heap.size := World.block_lt_of_cell? w a h
/-! ### slices that read as lists of cells: n elements of s cells each -/
def SlN (w : World) (s : Nat) (v : Value) (n : Nat) (xs : List Value) : Prop :=
  xs.length = n * s ∧ ((v = .slice none 0 0 ∧ n = 0) ∨ ∃ a c, v = .slice (some a) n c ∧ n ≤ c ∧ c ≤ maxLen ∧ ∀ i x, xs[i]? = some x → w.cell? (a.add i) = some x)
/-- Elements of one cell. -/
def Sl (w : World) (v : Value) (xs : List Value) : Prop := SlN w 1 v xs.length xs
theorem SlN.nil (w : World) (s : Nat) : SlN w s (.slice none 0 0) 0 [] := ⟨by simp, .inl ⟨rfl, rfl⟩⟩
theorem Sl.nil (w : World) : Sl w (.slice none 0 0) [] := SlN.nil w 1
theorem SlN.later {w w' : World} {s n : Nat} {v : Value} {xs : List Value} (h : SlN w s v n xs) (hl : Later w w') : SlN w' s v n xs := by
  obtain ⟨h0, h⟩ := h
  refine ⟨h0, ?_⟩
  rcases h with h | ⟨a, c, hv, h1, h2, h3⟩
  · exact .inl h
  · exact .inr ⟨a, c, hv, h1, h2, fun i x hx => hl.cell (h3 i x hx)⟩
theorem Sl.later {w w' : World} {v : Value} {xs : List Value} (h : Sl w v xs) (hl : Later w w') : Sl w' v xs := SlN.later h hl
/-- Opened: nil, or an address. -/
theorem SlN.open {w : World} {s n : Nat} {v : Value} {xs : List Value} (h : SlN w s v n xs) : ∃ o c, v = .slice o n c ∧ n ≤ c ∧ c ≤ maxLen ∧ xs.length = n * s ∧ (o = none → n = 0 ∧ c = 0) ∧ (∀ a, o = some a → ∀ i x, xs[i]? = some x → w.cell? (a.add i) = some x) := by
  obtain ⟨h0, h⟩ := h
  rcases h with ⟨rfl, rfl⟩ | ⟨a, c, rfl, h1, h2, h3⟩
  · exact ⟨none, 0, rfl, Nat.le_refl _, Nat.zero_le _, h0, fun _ => ⟨rfl, rfl⟩, by intro a ha; cases ha⟩
  · exact ⟨some a, c, rfl, h1, h2, h0, (fun h => by cases h), by intro a' ha; cases ha; exact h3⟩
theorem Sl.open {w : World} {v : Value} {xs : List Value} (h : Sl w v xs) : ∃ o c, v = .slice o xs.length c ∧ xs.length ≤ c ∧ c ≤ maxLen ∧ (o = none → xs = [] ∧ c = 0) ∧ (∀ a, o = some a → ∀ i x, xs[i]? = some x → w.cell? (a.add i) = some x) := by
  obtain ⟨o, c, hv, h1, h2, h3, h4, h5⟩ := SlN.open h
  exact ⟨o, c, hv, h1, h2, fun ho => ⟨List.eq_nil_of_length_eq_zero (h4 ho).1, (h4 ho).2⟩, h5⟩
theorem SlN.mk {w : World} {s : Nat} {o : Option Addr} {xs : List Value} {n c : Nat} (hn : xs.length = n * s) (h1 : n ≤ c) (h2 : c ≤ maxLen) (h0 : o = none → n = 0 ∧ c = 0) (h3 : ∀ a, o = some a → ∀ i x, xs[i]? = some x → w.cell? (a.add i) = some x) : SlN w s (.slice o n c) n xs := by
  refine ⟨hn, ?_⟩
  cases o with
  | none => obtain ⟨rfl, rfl⟩ := h0 rfl; exact .inl ⟨rfl, rfl⟩
  | some a => exact .inr ⟨a, c, rfl, h1, h2, h3 a rfl⟩
theorem SlN.len {w : World} {s : Nat} {a : Option Addr} {xs : List Value} {n n' c : Nat} (h : SlN w s (.slice a n c) n' xs) : n = n' ∧ n ≤ c ∧ c ≤ maxLen ∧ xs.length = n * s ∧ (a = none → n = 0 ∧ c = 0) := by
  obtain ⟨o, c', hv, h1, h2, h0, h3, _⟩ := h.open
  simp only [Value.slice.injEq] at hv
  obtain ⟨rfl, rfl, rfl⟩ := hv
  exact ⟨rfl, h1, h2, h0, h3⟩
theorem SlN.at {w : World} {s : Nat} {a : Addr} {xs : List Value} {n n' c : Nat} (h : SlN w s (.slice (some a) n c) n' xs) {i : Nat} {x : Value} (hx : xs[i]? = some x) : w.cell? (a.add i) = some x := by
  obtain ⟨o, c', hv, h1, h2, h0, _, h3⟩ := h.open
  simp only [Value.slice.injEq] at hv
  obtain ⟨rfl, rfl, rfl⟩ := hv
  exact h3 a rfl i x hx
/-- A part of a slice: what 'x[l:h:m]' gives. -/
theorem SlN.sub {w : World} {s : Nat} {a : Option Addr} {xs : List Value} {n n' c : Nat} (h : SlN w s (.slice a n c) n' xs) {l k m : Nat} (hl : l ≤ k) (hk : k ≤ n) (hm : k ≤ m) (hc : m ≤ c) :
    SlN w s (.slice (if m = l then a else a.map (·.add (l * s))) (k - l) (m - l)) (k - l) ((xs.take (k * s)).drop (l * s)) := by
  obtain ⟨rfl, h1, h2, h3, h0⟩ := h.len
  have hks : k * s ≤ n * s := Nat.mul_le_mul_right _ hk
  have hls : l * s ≤ k * s := Nat.mul_le_mul_right _ hl
  refine SlN.mk (by simp [Nat.sub_mul]; omega) (by omega) (by omega) ?_ ?_
  · intro ho
    have ha : a = none := by
      split at ho
      · exact ho
      · cases a with | none => rfl | some _ => cases ho
    obtain ⟨rfl, rfl⟩ := h0 ha
    omega
  · intro b hb i x hx
    rw [List.getElem?_drop, List.getElem?_take] at hx
    split at hx
    · rename_i hlt
      split at hb
      · rename_i e
        have : k = l := by omega
        subst this; omega
      · cases a with
        | none => cases hb
        | some a =>
          simp only [Option.map_some, Option.some.injEq] at hb
          subst hb
          rw [addr_add_add]
          exact h.at hx
    · cases hx
theorem SlN.part {w : World} {s : Nat} {a : Option Addr} {xs : List Value} {n n' c : Nat} (h : SlN w s (.slice a n c) n' xs) {l k m : Int} (h0 : 0 ≤ l) (hl : l ≤ k) (hk : k ≤ n) (hm : k ≤ m) (hc : m ≤ c) :
    SlN w s (.slice (slAddr a l m s) (k - l).toNat (m - l).toNat) (k - l).toNat ((xs.take (k.toNat * s)).drop (l.toNat * s)) := by
  have := h.sub (l := l.toNat) (k := k.toNat) (m := m.toNat) (by omega) (by omega) (by omega) (by omega)
  have e1 : (m.toNat = l.toNat) = (m = l) := by rw [eq_iff_iff]; omega
  have e2 : (k - l).toNat = k.toNat - l.toNat := by omega
  have e3 : (m - l).toNat = m.toNat - l.toNat := by omega
  unfold slAddr
  rw [e2, e3]
  simpa only [e1] using this
theorem Sl.len {w : World} {a : Option Addr} {xs : List Value} {n c : Nat} (h : Sl w (.slice a n c) xs) : n = xs.length ∧ n ≤ c ∧ c ≤ maxLen ∧ (a = none → xs = [] ∧ c = 0) := by
  obtain ⟨h1, h2, h3, h4, h5⟩ := SlN.len h
  refine ⟨h1, h2, h3, fun ha => ⟨List.eq_nil_of_length_eq_zero ?_, (h5 ha).2⟩⟩
  rw [h4, (h5 ha).1]
theorem Sl.at {w : World} {a : Addr} {xs : List Value} {n c : Nat} (h : Sl w (.slice (some a) n c) xs) {i : Nat} {x : Value} (hx : xs[i]? = some x) : w.cell? (a.add i) = some x := SlN.at h hx
theorem Sl.sub {w : World} {a : Option Addr} {xs : List Value} {n c : Nat} (h : Sl w (.slice a n c) xs) {l k m : Nat} (hl : l ≤ k) (hk : k ≤ n) (hm : k ≤ m) (hc : m ≤ c) :
    Sl w (.slice (if m = l then a else a.map (·.add l)) (k - l) (m - l)) ((xs.take k).drop l) := by
  have hn := h.len.1
  have := SlN.sub h hl hk hm hc
  unfold Sl
  have e : ((xs.take k).drop l).length = k - l := by simp; omega
  rw [e]
  simpa using this
theorem Sl.part {w : World} {a : Option Addr} {xs : List Value} {n c : Nat} (h : Sl w (.slice a n c) xs) {l k m : Int} (h0 : 0 ≤ l) (hl : l ≤ k) (hk : k ≤ n) (hm : k ≤ m) (hc : m ≤ c) :
    Sl w (.slice (slAddr a l m 1) (k - l).toNat (m - l).toNat) ((xs.take k.toNat).drop l.toNat) := by
  have hn := h.len.1
  have := SlN.part h h0 hl hk hm hc
  unfold Sl
  have e : ((xs.take k.toNat).drop l.toNat).length = (k - l).toNat := by simp; omega
  rw [e]
  simpa using this
/-- What a call owns reads as a slice. -/
theorem SlN.of_own {w : World} {base s : Nat} {e : TypeId} {v : Value} {n : Nat} {xs : List Value} (h : w.ownsRow base e s v n xs) : SlN w s v n xs := by
  obtain ⟨hl, h⟩ := h
  refine ⟨hl, ?_⟩
  rcases h with ⟨rfl, rfl⟩ | ⟨g, cap, cur, rfl, hb, hh, h1, h2, h3, h4⟩
  · exact .inl ⟨rfl, rfl⟩
  · refine .inr ⟨⟨g, 0, none⟩, cap, rfl, h1, h2, fun i x hx => ?_⟩
    rw [addr_add_eq, Nat.zero_add]
    have hi : i < n * s := by have := (List.getElem?_eq_some_iff.1 hx).1; omega
    simp only [World.cell?, hh]
    rw [← h4, List.getElem?_take, if_pos hi] at hx
    simpa using hx
theorem Sl.of_own {w : World} {base : Nat} {e : TypeId} {v : Value} {n : Nat} {xs : List Value} (h : w.ownsRow base e 1 v n xs) : Sl w v xs := by
  have := SlN.of_own h
  have e : n = xs.length := by have := h.1; omega
  subst e; exact this
theorem own_n {w : World} {base : Nat} {e : TypeId} {v : Value} {n : Nat} {xs : List Value} (h : w.ownsRow base e 1 v n xs) : n = xs.length := by have := h.1; omega
/-- Nothing of what a later world has left alone is lost to an owner. -/
theorem own_later {w w' : World} {base s : Nat} {e : TypeId} {v : Value} {n : Nat} {xs : List Value} (h : w.ownsRow base e s v n xs) (hl : Later w w') : w'.ownsRow base e s v n xs := by
  obtain ⟨h0, h⟩ := h
  refine ⟨h0, ?_⟩
  rcases h with h | ⟨g, cap, cur, hv, hb, hh, h⟩
  · exact .inl h
  · exact .inr ⟨g, cap, cur, hv, hb, (hl.heap (Array.getElem?_eq_some_iff.1 hh).1).trans hh, h⟩
theorem own_base {w : World} {base base' s : Nat} {e : TypeId} {v : Value} {n : Nat} {xs : List Value} (h : w.ownsRow base e s v n xs) (hb : base' ≤ base) : w.ownsRow base' e s v n xs := by
  obtain ⟨h0, h⟩ := h
  refine ⟨h0, ?_⟩
  rcases h with h | ⟨g, cap, cur, hv, hb', hh⟩
  · exact .inl h
  · exact .inr ⟨g, cap, cur, hv, Nat.le_trans hb hb', hh⟩
/-! ### append -/
theorem heap_new_drew (w : World) (o : Obj) : (w.drew.alloc o).heap[w.heap.size]? = some o := by
  show (w.heap.push o)[w.heap.size]? = _
  simp
theorem heap_old_drew (w : World) (o : Obj) (k : Nat) (hk : k < w.heap.size) : (w.drew.alloc o).heap[k]? = w.heap[k]? := by
  show (w.heap.push o)[k]? = _
  rw [Array.getElem?_push, if_neg (by omega)]
section
variable {P : Program} {w : World} {K : Value → World → Prop} {t e ty : TypeId} {z : Value} {s b : Nat}
theorem run_append_nil_src (ht : P.underlying t = some (.slice e)) (hi : (P.info? e).map (fun i => (i.zero, i.size, i.bytes)) = some (some z, s, b)) (o : Option Addr) (n c : Nat) (hn : n ≤ c) (ho : o = none → n = 0) :
    (Builtin.append_ #[t, t] ty #[.slice o n c, .slice none 0 0]).run P w = .ok (.slice o n c) w := by
  obtain ⟨i, hi1, _, _, _⟩ := info_parts hi
  cases o with
  | none => simp [Builtin.append_, run_underlying ht, sizeOf, typeInfo, hi1, Builtin.lenOf, Builtin.firstCells, hn]
  | some a => simp [Builtin.append_, run_underlying ht, sizeOf, typeInfo, hi1, Builtin.lenOf, Builtin.firstCells, hn, storeCells]
/-- Onto a slice of the call's own. -/
theorem vAppend_own (ht : P.underlying t = some (.slice e)) (hi : (P.info? e).map (fun i => (i.zero, i.size, i.bytes)) = some (some z, s, b)) (hzs : z.cells.size = s) (hsz : 0 < s)
    {base : Nat} {v x : Value} {n m : Nat} {xs news : List Value} (hown : w.ownsRow base e s v n xs) (hx : SlN w s x m news) (h1 : ∀ u ∈ news, u.oneCell' = true) (h63 : n + m ≤ maxLen) (hb : (n + m) * b ≤ 140737488355328) (hbase : base ≤ w.heap.size)
    (hK : ∀ v' w', w'.ownsRow base e s v' (n + m) (xs ++ news) → w.grownBy w' v.ownBlock → (v' = .slice none 0 0 ↔ v = .slice none 0 0 ∧ m = 0) → K v' w') : vAppend P #[t, t] ty #[v, x] K w := by
  obtain ⟨i, hi1, hz, hsi, hbi⟩ := info_parts hi
  unfold vAppend
  obtain ⟨hl, hx⟩ := hx
  rcases hx with ⟨rfl, rfl⟩ | ⟨a, c, rfl, hc1, hc2, hc3⟩
  · have hnews : news = [] := List.eq_nil_of_length_eq_zero (by simpa using hl)
    subst hnews
    have hsl := SlN.of_own hown
    obtain ⟨o, c, rfl, h1, h2, h3, h4, _⟩ := hsl.open
    rw [run_val_pure (run_append_nil_src ht hi o n c h1 (fun ho => (h4 ho).1))]
    refine hK _ _ (by simpa using hown) ⟨rfl, rfl, rfl, Nat.le_refl _, fun _ _ _ => rfl⟩ ?_
    constructor
    · intro h; exact ⟨h, rfl⟩
    · intro h; exact h.1
  · obtain ⟨v', w', hr, h2, h3, h4⟩ := run_append_own (P := P) w base t ty e i z s b ht hi1 hz hsi hbi hzs hsz v n xs hown a m c news hl hc3 h1 h63 hb hbase
    rw [run_val_pure hr]
    exact hK _ _ h2 h3 h4
end
theorem heap_new (w : World) (o : Obj) : (w.alloc o).heap[w.heap.size]? = some o := by
  show (w.heap.push o)[w.heap.size]? = _
  simp
/-- A literal's new block reads as the literal. -/
theorem SlN.lit (w : World) (l : List Value) (e : TypeId) (s n : Nat) (h : l.length = n * s) (hn : n ≤ maxLen) : SlN (w.alloc (.cells l.toArray e)) s (.slice (some ⟨w.heap.size, 0, none⟩) n n) n l := by
  refine SlN.mk h (Nat.le_refl _) hn (fun h => by cases h) ?_
  intro a ha i x hx
  simp only [Option.some.injEq] at ha
  subst ha
  rw [addr_add_eq, Nat.zero_add]
  have : (w.alloc (.cells l.toArray e)).heap[w.heap.size]? = some (.cells l.toArray e) := heap_new w _
  simp only [World.cell?, this]
  simpa using hx
theorem Sl.lit (w : World) (l : List Value) (e : TypeId) (hn : l.length ≤ maxLen) : Sl (w.alloc (.cells l.toArray e)) (.slice (some ⟨w.heap.size, 0, none⟩) l.length l.length) l := SlN.lit w l e 1 l.length (by simp) hn
theorem Sl.one (w : World) (x : Value) (e : TypeId) : Sl (w.alloc (.cells #[x] e)) (.slice (some ⟨w.heap.size, 0, none⟩) 1 1) [x] := Sl.lit w [x] e (by unfold maxLen; simp)
theorem own_nil (w : World) (base : Nat) (e : TypeId) (s : Nat) : w.ownsRow base e s (.slice none 0 0) 0 [] := World.ownsRow_nil w base e s
theorem own_alloc {w : World} {base s : Nat} {e : TypeId} {v : Value} {n : Nat} {xs : List Value} (h : w.ownsRow base e s v n xs) (o : Obj) : (w.alloc o).ownsRow base e s v n xs := World.ownsRow.alloc h o
/-- Behind an append onto a slice of the call's own: nothing that lay below has turned. -/
theorem Later.appended {w w2 w' : World} {base s n : Nat} {e : TypeId} {v : Value} {xs : List Value} (hl : Later w w2) (hown : w2.ownsRow base e s v n xs) (hb : w.heap.size ≤ base) (hg : w2.grownBy w' v.ownBlock) : Later w w' :=
  hl.grown hg fun k hk => by have := (World.ownsRow.lt hown) k hk; omega
/-! ### bytes and texts -/
/-- A byte. -/
def u8v (c : UInt8) : Value := .int .u8 c.toNat
theorem u8vs_one (l : List UInt8) : ∀ u ∈ l.map u8v, u.oneCell' = true := by
  intro u hu
  obtain ⟨c, _, rfl⟩ := List.mem_map.1 hu
  rfl
/-- The text of bytes. -/
def strOf (l : List UInt8) : ByteArray := ⟨l.toArray⟩
theorem strOf_data (s : ByteArray) : strOf s.data.toList = s := by cases s; rfl
section
variable {P : Program} {w : World} {K : Value → World → Prop}
theorem cellsAt_of (n : Nat) : ∀ (a : Addr) (xs : List Value), xs.length = n → (∀ i x, xs[i]? = some x → w.cell? (a.add i) = some x) → cellsAt w a n = some xs := by
  induction n with
  | zero => intro a xs h _; simp [cellsAt, List.eq_nil_of_length_eq_zero h]
  | succ n ih =>
    intro a xs h hc
    cases xs with
    | nil => simp at h
    | cons x xs =>
      have h0 := hc 0 x rfl
      rw [addr_add_zero] at h0
      simp only [cellsAt, h0]
      rw [ih (a.add 1) xs (by simpa using h) (fun i y hy => by
        rw [addr_add_add, Nat.add_comm 1 i]; exact hc (i + 1) y (by simpa using hy))]
theorem foldl_push (l : List UInt8) : ∀ s : ByteArray, (l.map fun c => ((c.toNat : Nat) : Int)).foldl (fun r n => r.push (UInt8.ofNat n.toNat)) s = s ++ strOf l := by
  induction l with
  | nil => intro s; simp [strOf]; apply ByteArray.ext; simp
  | cons c l ih =>
    intro s
    simp only [List.map_cons, List.foldl_cons, Int.toNat_natCast, UInt8.ofNat_toNat]
    rw [ih]
    apply ByteArray.ext
    simp [strOf, ByteArray.data_append]
theorem run_conv_bytes {s d e : TypeId} (hs : P.underlying s = some (.slice e)) (hd : P.underlying d = some .string) (he : P.underlying e = some (.int .u8)) {v : Value} {l : List UInt8} (h : Sl w v (l.map u8v)) :
    (convert s d v).run P w = .ok (.string (strOf l)) w := by
  obtain ⟨o, c, rfl, h1, h2, h3, h4⟩ := h.open
  rw [run_convert_bytes_string w s d e o _ c hs he hd]
  cases o with
  | none =>
    obtain ⟨h5, _⟩ := h3 rfl
    have : l = [] := by simpa using h5
    subst this
    rfl
  | some a =>
    have hc : (loadCells a (l.map u8v).length).run P w = .ok ((l.map fun c => ((c.toNat : Nat) : Int)).map (Value.int .u8)).toArray w := by
      rw [run_loadCells' (cs := l.map u8v) (cellsAt_of _ a _ rfl (h4 a rfl))]
      simp [u8v, Function.comp_def]
    rw [run_bytesToString w a _ c _ hc, foldl_push]
    have : ByteArray.empty ++ strOf l = strOf l := by apply ByteArray.ext; simp [strOf, ByteArray.data_append]
    rw [this]
theorem vConv_bytes {s d e : TypeId} (hs : P.underlying s = some (.slice e)) (hd : P.underlying d = some .string) (he : P.underlying e = some (.int .u8)) {o : Option Addr} {n c : Nat} {l : List UInt8} (h : Sl w (.slice o n c) (l.map u8v)) (hk : K (.string (strOf l)) w) :
    vConvD P s d (some (.slice e)) (some .string) (.slice o n c) K w := by
  show vcUp P K ((val (convert s d (.slice o n c))).run P w)
  rw [run_val_pure (run_conv_bytes hs hd he h)]; exact hk
theorem qConv_bytes {s d e ty : TypeId} {x : Operand} {σ : Env} {K : Value → Prop} (hs : P.underlying s = some (.slice e)) (hd : P.underlying d = some .string) (he : P.underlying e = some (.int .u8)) {o : Option Addr} {n c : Nat} {l : List UInt8} (hx : ev σ x = .slice o n c) (h : Sl w (.slice o n c) (l.map u8v)) (hk : K (.string (strOf l))) :
    qConv P s d x ty σ (some (.slice e)) (some .string) (.slice o n c) K w := by
  unfold qConv
  refine ⟨.string (strOf l), fun w' hl => ?_, hk⟩
  have : exe P (.convert s d x) ty σ w' = .ok (.value (.string (strOf l))) w' := by
    unfold exe; simp only [execOp]
    rw [hx]; exact run_val_pure (run_conv_bytes hs hd he (h.later hl))
  rw [this]; exact ⟨rfl, rfl⟩
end
/-- A slice that a call owns, as bytes. -/
def OwnB (w : World) (B : Nat) (e : TypeId) (v : Value) (l : List UInt8) : Prop := w.ownsRow B e 1 v l.length (l.map u8v)
theorem OwnB.sl {w : World} {B : Nat} {e : TypeId} {v : Value} {l : List UInt8} (h : OwnB w B e v l) : Sl w v (l.map u8v) := Sl.of_own h
theorem OwnB.later {w w' : World} {B : Nat} {e : TypeId} {v : Value} {l : List UInt8} (h : OwnB w B e v l) (hl : Later w w') : OwnB w' B e v l := own_later h hl
theorem OwnB.base {w : World} {B B' : Nat} {e : TypeId} {v : Value} {l : List UInt8} (h : OwnB w B e v l) (hb : B' ≤ B) : OwnB w B' e v l := own_base h hb
theorem OwnB.slice {w : World} {B : Nat} {e : TypeId} {v : Value} {l : List UInt8} (h : OwnB w B e v l) : ∃ o c, v = .slice o l.length c := by
  obtain ⟨o, c, hv, _⟩ := h.sl.open
  exact ⟨o, c, by simpa using hv⟩
theorem Sl.slice {w : World} {v : Value} {l : List Value} (h : Sl w v l) : ∃ o c, v = .slice o l.length c := by
  obtain ⟨o, c, hv, _⟩ := h.open
  exact ⟨o, c, hv⟩
end Go.Vc
end
section
namespace Go.Vc
open Go.RowKit
/-- A block's cells, none frozen. -/
def Blk (w : World) (k : Nat) (cs : Array Value) (e : TypeId) : Prop := w.heap[k]? = some (.cells cs e (0, 0))
theorem Blk.lt {w : World} {k : Nat} {cs : Array Value} {e : TypeId} (h : Blk w k cs e) : k < w.heap.size := by
  unfold Blk at h
  by_cases hk : k < w.heap.size
  · exact hk
  · rw [Array.getElem?_eq_none (by omega)] at h; cases h
theorem Blk.cell {w : World} {k : Nat} {cs : Array Value} {e : TypeId} (h : Blk w k cs e) (i : Nat) : w.cell? ⟨k, i, none⟩ = cs[i]? := by
  unfold Blk at h
  simp [World.cell?, h]
theorem Blk.frozen {w : World} {k : Nat} {cs : Array Value} {e : TypeId} (h : Blk w k cs e) (i : Nat) : w.frozen? ⟨k, i, none⟩ = false := by
  unfold Blk at h
  simp [World.frozen?, h]
theorem Blk.set {w : World} {k : Nat} {cs : Array Value} {e : TypeId} (h : Blk w k cs e) (i : Nat) (v : Value) : Blk (w.setCell ⟨k, i, none⟩ v) k (cs.setIfInBounds i v) e := by
  unfold Blk at h ⊢
  simp [World.setCell, Array.getElem?_modify, h]
theorem Blk.new (w : World) (cs : Array Value) (e : TypeId) : Blk (w.alloc (.cells cs e)) w.heap.size cs e := heap_new w _
theorem heap_alloc {w : World} {k : Nat} (h : k < w.heap.size) (o : Obj) : (w.alloc o).heap[k]? = w.heap[k]? := by
  show (w.heap.push o)[k]? = _
  rw [Array.getElem?_push, if_neg (by omega)]
theorem Blk.alloc {w : World} {k : Nat} {cs : Array Value} {e : TypeId} (h : Blk w k cs e) (o : Obj) : Blk (w.alloc o) k cs e := by
  have := heap_alloc h.lt o
  unfold Blk at h ⊢
  rw [this, h]
/-- Behind w, but for the blocks of ks. -/
structure Chg (w w' : World) (ks : List Nat) : Prop where
  os : w'.os = w.os
  tape : w'.tape = w.tape
  output : w'.output = w.output
  size : w.heap.size ≤ w'.heap.size
  block : ∀ k, k < w.heap.size → k ∉ ks → w'.heap[k]? = w.heap[k]?
theorem Chg.refl (w : World) (ks : List Nat) : Chg w w ks := ⟨rfl, rfl, rfl, Nat.le_refl _, fun _ _ _ => rfl⟩
theorem Chg.trans {a b c : World} {ks : List Nat} (h : Chg a b ks) (g : Chg b c ks) : Chg a c ks :=
  ⟨g.os.trans h.os, g.tape.trans h.tape, g.output.trans h.output, Nat.le_trans h.size g.size, fun k hk hn => (g.block k (Nat.lt_of_lt_of_le hk h.size) hn).trans (h.block k hk hn)⟩
theorem Chg.mono {a b : World} {ks js : List Nat} (h : Chg a b ks) (hs : ∀ k ∈ ks, k ∈ js) : Chg a b js :=
  ⟨h.os, h.tape, h.output, h.size, fun k hk hn => h.block k hk fun hm => hn (hs k hm)⟩
theorem Chg.of_later {a b : World} {ks : List Nat} (h : Later a b) : Chg a b ks := ⟨h.os, h.tape, h.output, h.size, fun k hk _ => h.block k hk⟩
theorem Chg.later {a b c : World} {ks : List Nat} (h : Later a b) (g : Chg b c ks) (hk : ∀ k ∈ ks, a.heap.size ≤ k) : Later a c :=
  ⟨g.os.trans h.os, g.tape.trans h.tape, g.output.trans h.output, Nat.le_trans h.size g.size, fun k hka => (g.block k (Nat.lt_of_lt_of_le hka h.size) fun hm => by have := hk k hm; omega).trans (h.block k hka)⟩
theorem Chg.alloc {a b : World} {ks : List Nat} (h : Chg a b ks) (o : Obj) : Chg a (b.alloc o) ks := h.trans (Chg.of_later (later_alloc _ _))
theorem chg_setCell (w : World) {k i : Nat} {ks : List Nat} (hk : k ∈ ks) (v : Value) : Chg w (w.setCell ⟨k, i, none⟩ v) ks :=
  ⟨rfl, rfl, rfl, by simp [World.setCell], fun j _ hn => by
    have : k ≠ j := fun e => hn (e ▸ hk)
    simp [World.setCell, Array.getElem?_modify, this]⟩
theorem Chg.set {a b : World} {ks : List Nat} (h : Chg a b ks) {k i : Nat} (hk : k ∈ ks) (v : Value) : Chg a (b.setCell ⟨k, i, none⟩ v) ks := h.trans (chg_setCell b hk v)
theorem Blk.chg {w w' : World} {ks : List Nat} {k : Nat} {cs : Array Value} {e : TypeId} (h : Blk w k cs e) (g : Chg w w' ks) (hk : k ∉ ks) : Blk w' k cs e := by
  have := g.block k h.lt hk
  unfold Blk at h ⊢
  rw [this, h]
/-- The block that a slice lies in, if it has an element. -/
def inB (k : Nat) : Value → Prop
  | .slice (some a) n _ => n = 0 ∨ a.block = k
  | _ => True
theorem SlN.chg {w w' : World} {s n : Nat} {v : Value} {xs : List Value} {ks : List Nat} {k : Nat} (h : SlN w s v n xs) (g : Chg w w' ks) (hk : k ∉ ks) (hv : inB k v) : SlN w' s v n xs := by
  obtain ⟨o, c, rfl, h1, h2, h3, h4, h5⟩ := h.open
  refine SlN.mk h3 h1 h2 h4 fun a ha i x hx => ?_
  have hc := h5 a ha i x hx
  have hlt := lt_of_cell hc
  rw [addr_add_block] at hlt
  subst ha
  have hb : a.block = k := by
    rcases hv with h0 | h
    · subst h0
      simp only [Nat.zero_mul] at h3
      rw [List.eq_nil_of_length_eq_zero h3] at hx; cases hx
    · exact h
  have e := g.block a.block hlt (hb ▸ hk)
  rw [← addr_add_block a i] at e
  unfold World.cell? at hc ⊢
  rw [e]; exact hc
theorem Sl.chg {w w' : World} {v : Value} {xs : List Value} {ks : List Nat} {k : Nat} (h : Sl w v xs) (g : Chg w w' ks) (hk : k ∉ ks) (hv : inB k v) : Sl w' v xs := SlN.chg h g hk hv
/-- The block of a slice that reads: some block below the heap's size, or no matter which. -/
theorem inB_lt {w : World} {v : Value} {xs : List Value} (h : Sl w v xs) : (∀ j, inB j v) ∨ ∃ k, k < w.heap.size ∧ inB k v := by
  obtain ⟨o, c, rfl, h1, h2, h3, h4⟩ := h.open
  cases o with
  | none => exact .inl fun j => trivial
  | some a =>
    cases xs with
    | nil => exact .inl fun j => .inl rfl
    | cons x xs =>
      have := lt_of_cell (h4 a rfl 0 x rfl)
      rw [addr_add_block] at this
      exact .inr ⟨a.block, this, .inr rfl⟩
theorem own_in {w : World} {base s n : Nat} {e : TypeId} {v : Value} {xs : List Value} (h : w.ownsRow base e s v n xs) : ∃ k, (k < w.heap.size ∨ k = base) ∧ base ≤ k ∧ inB k v := by
  obtain ⟨_, h⟩ := h
  rcases h with ⟨rfl, _⟩ | ⟨g, cap, cur, rfl, hb, hh, _⟩
  · exact ⟨base, .inr rfl, Nat.le_refl _, trivial⟩
  · exact ⟨g, .inl (Blk.lt hh), hb, .inr rfl⟩
/-- A literal's block is the call's own. -/
theorem own_lit (w : World) (l : List Value) (e : TypeId) (s n : Nat) (h : l.length = n * s) (hn : n ≤ maxLen) {base : Nat} (hb : base ≤ w.heap.size) : (w.alloc (.cells l.toArray e)).ownsRow base e s (.slice (some ⟨w.heap.size, 0, none⟩) n n) n l := by
  refine ⟨h, .inr ⟨w.heap.size, n, l.toArray, rfl, hb, heap_new w _, Nat.le_refl _, hn, by simpa using h, ?_⟩⟩
  rw [← h]; simp
/-- The first k. -/
theorem Sl.pre {w : World} {o : Option Addr} {n c : Nat} {xs : List Value} (h : Sl w (.slice o n c) xs) {k : Nat} (hk : k ≤ n) : Sl w (.slice o k c) (xs.take k) := by
  obtain ⟨hn, hc, hm, _⟩ := h.len
  have hs := h.part (l := 0) (k := (k : Int)) (m := (c : Int)) (by omega) (by omega) (by omega) (by omega) (by omega)
  simp only [Int.sub_zero, Int.toNat_zero, List.drop_zero, Int.toNat_natCast] at hs
  unfold slAddr at hs
  split at hs
  · exact hs
  · cases o with
    | none => exact hs
    | some a => simpa [addr_add_zero] using hs
theorem Chg.of_grown {w w' : World} {row : Option Nat} (g : w.grownBy w' row) : Chg w w' row.toList :=
  ⟨g.os, g.tape, g.output, g.size, fun k hk hn => g.block k hk fun h => hn (by simp [h])⟩
end Go.Vc
end
section
namespace Go.Proofs.Ytmfcnooleejgmaa
open Go.Vc
theorem mixed : Try.prog.follows .mixedOrders = true := by kernel_rfl
@[push_cast] theorem sz1 : szOf Try.prog 1 = some 1 := by kernel_rfl
theorem ti1 : (Try.prog.info? 1).map (fun i => (i.zero, i.size, i.bytes)) = some (some .nilFunc, 1, 8) := by kernel_rfl
@[push_cast] theorem al1 (K : Value → World → Prop) (w : World) : vAlloc Try.prog 1 K w = K (.pointer (some ⟨w.heap.size, 0, none⟩)) (w.alloc (.cells #[.nilFunc] 1)) := vAlloc_ok ti1 K w
@[push_cast] theorem one1 : oneD (Try.prog.underlying 1) = true := by kernel_rfl
@[push_cast] theorem sz2 : szOf Try.prog 2 = some 1 := by kernel_rfl
theorem ti2 : (Try.prog.info? 2).map (fun i => (i.zero, i.size, i.bytes)) = some (some (.int .i64 0), 1, 8) := by kernel_rfl
@[push_cast] theorem al2 (K : Value → World → Prop) (w : World) : vAlloc Try.prog 2 K w = K (.pointer (some ⟨w.heap.size, 0, none⟩)) (w.alloc (.cells #[(.int .i64 0)] 2)) := vAlloc_ok ti2 K w
attribute [push_cast] Try.underlying2
@[push_cast] theorem sz3 : szOf Try.prog 3 = some 1 := by kernel_rfl
theorem ti3 : (Try.prog.info? 3).map (fun i => (i.zero, i.size, i.bytes)) = some (some (.int .i64 0), 1, 8) := by kernel_rfl
@[push_cast] theorem al3 (K : Value → World → Prop) (w : World) : vAlloc Try.prog 3 K w = K (.pointer (some ⟨w.heap.size, 0, none⟩)) (w.alloc (.cells #[(.int .i64 0)] 3)) := vAlloc_ok ti3 K w
attribute [push_cast] Try.underlying3
@[push_cast] theorem sz4 : szOf Try.prog 4 = some 1 := by kernel_rfl
theorem ti4 : (Try.prog.info? 4).map (fun i => (i.zero, i.size, i.bytes)) = some (some (.bool false), 1, 1) := by kernel_rfl
@[push_cast] theorem al4 (K : Value → World → Prop) (w : World) : vAlloc Try.prog 4 K w = K (.pointer (some ⟨w.heap.size, 0, none⟩)) (w.alloc (.cells #[(.bool false)] 4)) := vAlloc_ok ti4 K w
attribute [push_cast] Try.underlying4
@[push_cast] theorem sz5 : szOf Try.prog 5 = some 1 := by kernel_rfl
theorem ti5 : (Try.prog.info? 5).map (fun i => (i.zero, i.size, i.bytes)) = some (some (.int .u8 0), 1, 1) := by kernel_rfl
@[push_cast] theorem al5 (K : Value → World → Prop) (w : World) : vAlloc Try.prog 5 K w = K (.pointer (some ⟨w.heap.size, 0, none⟩)) (w.alloc (.cells #[(.int .u8 0)] 5)) := vAlloc_ok ti5 K w
attribute [push_cast] Try.underlying5
@[push_cast] theorem sz6 : szOf Try.prog 6 = some 1 := by kernel_rfl
theorem ti6 : (Try.prog.info? 6).map (fun i => (i.zero, i.size, i.bytes)) = some (some (.int .u8 0), 1, 1) := by kernel_rfl
@[push_cast] theorem al6 (K : Value → World → Prop) (w : World) : vAlloc Try.prog 6 K w = K (.pointer (some ⟨w.heap.size, 0, none⟩)) (w.alloc (.cells #[(.int .u8 0)] 6)) := vAlloc_ok ti6 K w
attribute [push_cast] Try.underlying6
@[push_cast] theorem sz9 : szOf Try.prog 9 = some 1 := by kernel_rfl
theorem ti9 : (Try.prog.info? 9).map (fun i => (i.zero, i.size, i.bytes)) = some (some (.string ⟨#[]⟩), 1, 16) := by kernel_rfl
@[push_cast] theorem al9 (K : Value → World → Prop) (w : World) : vAlloc Try.prog 9 K w = K (.pointer (some ⟨w.heap.size, 0, none⟩)) (w.alloc (.cells #[(.string ⟨#[]⟩)] 9)) := vAlloc_ok ti9 K w
attribute [push_cast] Try.underlying9
@[push_cast] theorem sz20 : szOf Try.prog 20 = some 1 := by kernel_rfl
theorem ti20 : (Try.prog.info? 20).map (fun i => (i.zero, i.size, i.bytes)) = some (some .nilIface, 1, 16) := by kernel_rfl
@[push_cast] theorem al20 (K : Value → World → Prop) (w : World) : vAlloc Try.prog 20 K w = K (.pointer (some ⟨w.heap.size, 0, none⟩)) (w.alloc (.cells #[.nilIface] 20)) := vAlloc_ok ti20 K w
@[push_cast] theorem one20 : oneD (Try.prog.underlying 20) = true := by kernel_rfl
@[push_cast] theorem sz21 : szOf Try.prog 21 = some 1 := by kernel_rfl
theorem ti21 : (Try.prog.info? 21).map (fun i => (i.zero, i.size, i.bytes)) = some (some (.int .i32 0), 1, 4) := by kernel_rfl
@[push_cast] theorem al21 (K : Value → World → Prop) (w : World) : vAlloc Try.prog 21 K w = K (.pointer (some ⟨w.heap.size, 0, none⟩)) (w.alloc (.cells #[(.int .i32 0)] 21)) := vAlloc_ok ti21 K w
attribute [push_cast] Try.underlying21
@[push_cast] theorem sz22 : szOf Try.prog 22 = some 1 := by kernel_rfl
theorem ti22 : (Try.prog.info? 22).map (fun i => (i.zero, i.size, i.bytes)) = some (some (.slice none 0 0), 1, 24) := by kernel_rfl
@[push_cast] theorem al22 (K : Value → World → Prop) (w : World) : vAlloc Try.prog 22 K w = K (.pointer (some ⟨w.heap.size, 0, none⟩)) (w.alloc (.cells #[(.slice none 0 0)] 22)) := vAlloc_ok ti22 K w
attribute [push_cast] Try.underlying22
@[push_cast] theorem sz23 : szOf Try.prog 23 = some 1 := by kernel_rfl
theorem ti23 : (Try.prog.info? 23).map (fun i => (i.zero, i.size, i.bytes)) = some (some (.pointer none), 1, 8) := by kernel_rfl
@[push_cast] theorem al23 (K : Value → World → Prop) (w : World) : vAlloc Try.prog 23 K w = K (.pointer (some ⟨w.heap.size, 0, none⟩)) (w.alloc (.cells #[(.pointer none)] 23)) := vAlloc_ok ti23 K w
attribute [push_cast] Try.underlying23
@[push_cast] theorem sz24 : szOf Try.prog 24 = some 1 := by kernel_rfl
theorem ti24 : (Try.prog.info? 24).map (fun i => (i.zero, i.size, i.bytes)) = some (some (.int .i64 0), 1, 8) := by kernel_rfl
@[push_cast] theorem al24 (K : Value → World → Prop) (w : World) : vAlloc Try.prog 24 K w = K (.pointer (some ⟨w.heap.size, 0, none⟩)) (w.alloc (.cells #[(.int .i64 0)] 24)) := vAlloc_ok ti24 K w
attribute [push_cast] Try.underlying24
@[push_cast] theorem sz35 : szOf Try.prog 35 = some 1 := by kernel_rfl
theorem ti35 : (Try.prog.info? 35).map (fun i => (i.zero, i.size, i.bytes)) = some (some (.slice none 0 0), 1, 24) := by kernel_rfl
@[push_cast] theorem al35 (K : Value → World → Prop) (w : World) : vAlloc Try.prog 35 K w = K (.pointer (some ⟨w.heap.size, 0, none⟩)) (w.alloc (.cells #[(.slice none 0 0)] 35)) := vAlloc_ok ti35 K w
attribute [push_cast] Try.underlying35
@[push_cast] theorem sz36 : szOf Try.prog 36 = some 5 := by kernel_rfl
theorem ti36 : (Try.prog.info? 36).map (fun i => (i.zero, i.size, i.bytes)) = some (some (.agg #[(.int .i64 0), (.int .i64 0), (.string ⟨#[]⟩), (.string ⟨#[]⟩), (.slice none 0 0)]), 5, 72) := by kernel_rfl
@[push_cast] theorem al36 (K : Value → World → Prop) (w : World) : vAlloc Try.prog 36 K w = K (.pointer (some ⟨w.heap.size, 0, none⟩)) (w.alloc (.cells #[(.int .i64 0), (.int .i64 0), (.string ⟨#[]⟩), (.string ⟨#[]⟩), (.slice none 0 0)] 36)) := vAlloc_ok ti36 K w
attribute [push_cast] Try.underlying36
@[push_cast] theorem fld36_0 : fieldOf Try.prog 36 0 = some (0, 3) := by kernel_rfl
@[push_cast] theorem fld36_1 : fieldOf Try.prog 36 1 = some (1, 3) := by kernel_rfl
@[push_cast] theorem fld36_2 : fieldOf Try.prog 36 2 = some (2, 9) := by kernel_rfl
@[push_cast] theorem fld36_3 : fieldOf Try.prog 36 3 = some (3, 9) := by kernel_rfl
@[push_cast] theorem fld36_4 : fieldOf Try.prog 36 4 = some (4, 22) := by kernel_rfl
@[push_cast] theorem sz37 : szOf Try.prog 37 = some 5 := by kernel_rfl
theorem ti37 : (Try.prog.info? 37).map (fun i => (i.zero, i.size, i.bytes)) = some (some (.agg #[(.int .i64 0), (.int .i64 0), (.string ⟨#[]⟩), (.string ⟨#[]⟩), (.slice none 0 0)]), 5, 72) := by kernel_rfl
@[push_cast] theorem al37 (K : Value → World → Prop) (w : World) : vAlloc Try.prog 37 K w = K (.pointer (some ⟨w.heap.size, 0, none⟩)) (w.alloc (.cells #[(.int .i64 0), (.int .i64 0), (.string ⟨#[]⟩), (.string ⟨#[]⟩), (.slice none 0 0)] 37)) := vAlloc_ok ti37 K w
attribute [push_cast] Try.underlying37
@[push_cast] theorem fld37_0 : fieldOf Try.prog 37 0 = some (0, 3) := by kernel_rfl
@[push_cast] theorem fld37_1 : fieldOf Try.prog 37 1 = some (1, 3) := by kernel_rfl
@[push_cast] theorem fld37_2 : fieldOf Try.prog 37 2 = some (2, 9) := by kernel_rfl
@[push_cast] theorem fld37_3 : fieldOf Try.prog 37 3 = some (3, 9) := by kernel_rfl
@[push_cast] theorem fld37_4 : fieldOf Try.prog 37 4 = some (4, 22) := by kernel_rfl
@[push_cast] theorem sz40 : szOf Try.prog 40 = some 1 := by kernel_rfl
theorem ti40 : (Try.prog.info? 40).map (fun i => (i.zero, i.size, i.bytes)) = some (some (.slice none 0 0), 1, 24) := by kernel_rfl
@[push_cast] theorem al40 (K : Value → World → Prop) (w : World) : vAlloc Try.prog 40 K w = K (.pointer (some ⟨w.heap.size, 0, none⟩)) (w.alloc (.cells #[(.slice none 0 0)] 40)) := vAlloc_ok ti40 K w
attribute [push_cast] Try.underlying40
@[push_cast] theorem sz43 : szOf Try.prog 43 = some 1 := by kernel_rfl
theorem ti43 : (Try.prog.info? 43).map (fun i => (i.zero, i.size, i.bytes)) = some (some (.pointer none), 1, 8) := by kernel_rfl
@[push_cast] theorem al43 (K : Value → World → Prop) (w : World) : vAlloc Try.prog 43 K w = K (.pointer (some ⟨w.heap.size, 0, none⟩)) (w.alloc (.cells #[(.pointer none)] 43)) := vAlloc_ok ti43 K w
attribute [push_cast] Try.underlying43
@[push_cast] theorem sz55 : szOf Try.prog 55 = some 1 := by kernel_rfl
theorem ti55 : (Try.prog.info? 55).map (fun i => (i.zero, i.size, i.bytes)) = some (some (.map none), 1, 8) := by kernel_rfl
@[push_cast] theorem al55 (K : Value → World → Prop) (w : World) : vAlloc Try.prog 55 K w = K (.pointer (some ⟨w.heap.size, 0, none⟩)) (w.alloc (.cells #[(.map none)] 55)) := vAlloc_ok ti55 K w
attribute [push_cast] Try.underlying55
@[push_cast] theorem sz56 : szOf Try.prog 56 = some 3 := by kernel_rfl
theorem ti56 : (Try.prog.info? 56).map (fun i => (i.zero, i.size, i.bytes)) = some (some (.agg #[(.int .i64 0), (.int .i64 0), (.map none)]), 3, 24) := by kernel_rfl
@[push_cast] theorem al56 (K : Value → World → Prop) (w : World) : vAlloc Try.prog 56 K w = K (.pointer (some ⟨w.heap.size, 0, none⟩)) (w.alloc (.cells #[(.int .i64 0), (.int .i64 0), (.map none)] 56)) := vAlloc_ok ti56 K w
attribute [push_cast] Try.underlying56
@[push_cast] theorem fld56_0 : fieldOf Try.prog 56 0 = some (0, 3) := by kernel_rfl
@[push_cast] theorem fld56_1 : fieldOf Try.prog 56 1 = some (1, 3) := by kernel_rfl
@[push_cast] theorem fld56_2 : fieldOf Try.prog 56 2 = some (2, 55) := by kernel_rfl
@[push_cast] theorem sz57 : szOf Try.prog 57 = some 3 := by kernel_rfl
theorem ti57 : (Try.prog.info? 57).map (fun i => (i.zero, i.size, i.bytes)) = some (some (.agg #[(.int .i64 0), (.int .i64 0), (.map none)]), 3, 24) := by kernel_rfl
@[push_cast] theorem al57 (K : Value → World → Prop) (w : World) : vAlloc Try.prog 57 K w = K (.pointer (some ⟨w.heap.size, 0, none⟩)) (w.alloc (.cells #[(.int .i64 0), (.int .i64 0), (.map none)] 57)) := vAlloc_ok ti57 K w
attribute [push_cast] Try.underlying57
@[push_cast] theorem fld57_0 : fieldOf Try.prog 57 0 = some (0, 3) := by kernel_rfl
@[push_cast] theorem fld57_1 : fieldOf Try.prog 57 1 = some (1, 3) := by kernel_rfl
@[push_cast] theorem fld57_2 : fieldOf Try.prog 57 2 = some (2, 55) := by kernel_rfl
@[push_cast] theorem sz60 : szOf Try.prog 60 = some 2 := by kernel_rfl
theorem ti60 : (Try.prog.info? 60).map (fun i => (i.zero, i.size, i.bytes)) = some (some (.agg #[(.slice none 0 0), (.int .i64 0)]), 2, 32) := by kernel_rfl
@[push_cast] theorem al60 (K : Value → World → Prop) (w : World) : vAlloc Try.prog 60 K w = K (.pointer (some ⟨w.heap.size, 0, none⟩)) (w.alloc (.cells #[(.slice none 0 0), (.int .i64 0)] 60)) := vAlloc_ok ti60 K w
attribute [push_cast] Try.underlying60
@[push_cast] theorem fld60_0 : fieldOf Try.prog 60 0 = some (0, 22) := by kernel_rfl
@[push_cast] theorem fld60_1 : fieldOf Try.prog 60 1 = some (1, 3) := by kernel_rfl
@[push_cast] theorem sz61 : szOf Try.prog 61 = some 2 := by kernel_rfl
theorem ti61 : (Try.prog.info? 61).map (fun i => (i.zero, i.size, i.bytes)) = some (some (.agg #[(.slice none 0 0), (.int .i64 0)]), 2, 32) := by kernel_rfl
@[push_cast] theorem al61 (K : Value → World → Prop) (w : World) : vAlloc Try.prog 61 K w = K (.pointer (some ⟨w.heap.size, 0, none⟩)) (w.alloc (.cells #[(.slice none 0 0), (.int .i64 0)] 61)) := vAlloc_ok ti61 K w
attribute [push_cast] Try.underlying61
@[push_cast] theorem fld61_0 : fieldOf Try.prog 61 0 = some (0, 22) := by kernel_rfl
@[push_cast] theorem fld61_1 : fieldOf Try.prog 61 1 = some (1, 3) := by kernel_rfl
@[push_cast] theorem sz66 : szOf Try.prog 66 = some 1 := by kernel_rfl
theorem ti66 : (Try.prog.info? 66).map (fun i => (i.zero, i.size, i.bytes)) = some (some .nilFunc, 1, 8) := by kernel_rfl
@[push_cast] theorem al66 (K : Value → World → Prop) (w : World) : vAlloc Try.prog 66 K w = K (.pointer (some ⟨w.heap.size, 0, none⟩)) (w.alloc (.cells #[.nilFunc] 66)) := vAlloc_ok ti66 K w
@[push_cast] theorem one66 : oneD (Try.prog.underlying 66) = true := by kernel_rfl
@[push_cast] theorem sz67 : szOf Try.prog 67 = some 1 := by kernel_rfl
theorem ti67 : (Try.prog.info? 67).map (fun i => (i.zero, i.size, i.bytes)) = some (some .nilFunc, 1, 8) := by kernel_rfl
@[push_cast] theorem al67 (K : Value → World → Prop) (w : World) : vAlloc Try.prog 67 K w = K (.pointer (some ⟨w.heap.size, 0, none⟩)) (w.alloc (.cells #[.nilFunc] 67)) := vAlloc_ok ti67 K w
@[push_cast] theorem one67 : oneD (Try.prog.underlying 67) = true := by kernel_rfl
@[push_cast] theorem sz69 : szOf Try.prog 69 = some 1 := by kernel_rfl
theorem ti69 : (Try.prog.info? 69).map (fun i => (i.zero, i.size, i.bytes)) = some (some (.slice none 0 0), 1, 24) := by kernel_rfl
@[push_cast] theorem al69 (K : Value → World → Prop) (w : World) : vAlloc Try.prog 69 K w = K (.pointer (some ⟨w.heap.size, 0, none⟩)) (w.alloc (.cells #[(.slice none 0 0)] 69)) := vAlloc_ok ti69 K w
attribute [push_cast] Try.underlying69
@[push_cast] theorem sz70 : szOf Try.prog 70 = some 3 := by kernel_rfl
theorem ti70 : (Try.prog.info? 70).map (fun i => (i.zero, i.size, i.bytes)) = some (some (.agg #[(.int .i64 0), (.int .i64 0), (.slice none 0 0)]), 3, 40) := by kernel_rfl
@[push_cast] theorem al70 (K : Value → World → Prop) (w : World) : vAlloc Try.prog 70 K w = K (.pointer (some ⟨w.heap.size, 0, none⟩)) (w.alloc (.cells #[(.int .i64 0), (.int .i64 0), (.slice none 0 0)] 70)) := vAlloc_ok ti70 K w
attribute [push_cast] Try.underlying70
@[push_cast] theorem fld70_0 : fieldOf Try.prog 70 0 = some (0, 3) := by kernel_rfl
@[push_cast] theorem fld70_1 : fieldOf Try.prog 70 1 = some (1, 3) := by kernel_rfl
@[push_cast] theorem fld70_2 : fieldOf Try.prog 70 2 = some (2, 69) := by kernel_rfl
@[push_cast] theorem sz71 : szOf Try.prog 71 = some 3 := by kernel_rfl
theorem ti71 : (Try.prog.info? 71).map (fun i => (i.zero, i.size, i.bytes)) = some (some (.agg #[(.int .i64 0), (.int .i64 0), (.slice none 0 0)]), 3, 40) := by kernel_rfl
@[push_cast] theorem al71 (K : Value → World → Prop) (w : World) : vAlloc Try.prog 71 K w = K (.pointer (some ⟨w.heap.size, 0, none⟩)) (w.alloc (.cells #[(.int .i64 0), (.int .i64 0), (.slice none 0 0)] 71)) := vAlloc_ok ti71 K w
attribute [push_cast] Try.underlying71
@[push_cast] theorem fld71_0 : fieldOf Try.prog 71 0 = some (0, 3) := by kernel_rfl
@[push_cast] theorem fld71_1 : fieldOf Try.prog 71 1 = some (1, 3) := by kernel_rfl
@[push_cast] theorem fld71_2 : fieldOf Try.prog 71 2 = some (2, 69) := by kernel_rfl
@[push_cast] theorem sz72 : szOf Try.prog 72 = some 3 := by kernel_rfl
theorem ti72 : (Try.prog.info? 72).map (fun i => (i.zero, i.size, i.bytes)) = some (some (.agg #[(.string ⟨#[]⟩), (.slice none 0 0), (.int .i64 0)]), 3, 48) := by kernel_rfl
@[push_cast] theorem al72 (K : Value → World → Prop) (w : World) : vAlloc Try.prog 72 K w = K (.pointer (some ⟨w.heap.size, 0, none⟩)) (w.alloc (.cells #[(.string ⟨#[]⟩), (.slice none 0 0), (.int .i64 0)] 72)) := vAlloc_ok ti72 K w
attribute [push_cast] Try.underlying72
@[push_cast] theorem fld72_0 : fieldOf Try.prog 72 0 = some (0, 9) := by kernel_rfl
@[push_cast] theorem fld72_1 : fieldOf Try.prog 72 1 = some (1, 22) := by kernel_rfl
@[push_cast] theorem fld72_2 : fieldOf Try.prog 72 2 = some (2, 3) := by kernel_rfl
@[push_cast] theorem sz73 : szOf Try.prog 73 = some 3 := by kernel_rfl
theorem ti73 : (Try.prog.info? 73).map (fun i => (i.zero, i.size, i.bytes)) = some (some (.agg #[(.string ⟨#[]⟩), (.slice none 0 0), (.int .i64 0)]), 3, 48) := by kernel_rfl
@[push_cast] theorem al73 (K : Value → World → Prop) (w : World) : vAlloc Try.prog 73 K w = K (.pointer (some ⟨w.heap.size, 0, none⟩)) (w.alloc (.cells #[(.string ⟨#[]⟩), (.slice none 0 0), (.int .i64 0)] 73)) := vAlloc_ok ti73 K w
attribute [push_cast] Try.underlying73
@[push_cast] theorem fld73_0 : fieldOf Try.prog 73 0 = some (0, 9) := by kernel_rfl
@[push_cast] theorem fld73_1 : fieldOf Try.prog 73 1 = some (1, 22) := by kernel_rfl
@[push_cast] theorem fld73_2 : fieldOf Try.prog 73 2 = some (2, 3) := by kernel_rfl
@[push_cast] theorem sz77 : szOf Try.prog 77 = some 1 := by kernel_rfl
theorem ti77 : (Try.prog.info? 77).map (fun i => (i.zero, i.size, i.bytes)) = some (some .nilFunc, 1, 8) := by kernel_rfl
@[push_cast] theorem al77 (K : Value → World → Prop) (w : World) : vAlloc Try.prog 77 K w = K (.pointer (some ⟨w.heap.size, 0, none⟩)) (w.alloc (.cells #[.nilFunc] 77)) := vAlloc_ok ti77 K w
@[push_cast] theorem one77 : oneD (Try.prog.underlying 77) = true := by kernel_rfl
@[push_cast] theorem sz78 : szOf Try.prog 78 = some 1 := by kernel_rfl
theorem ti78 : (Try.prog.info? 78).map (fun i => (i.zero, i.size, i.bytes)) = some (some (.slice none 0 0), 1, 24) := by kernel_rfl
@[push_cast] theorem al78 (K : Value → World → Prop) (w : World) : vAlloc Try.prog 78 K w = K (.pointer (some ⟨w.heap.size, 0, none⟩)) (w.alloc (.cells #[(.slice none 0 0)] 78)) := vAlloc_ok ti78 K w
attribute [push_cast] Try.underlying78
@[push_cast] theorem sz86 : szOf Try.prog 86 = some 1 := by kernel_rfl
theorem ti86 : (Try.prog.info? 86).map (fun i => (i.zero, i.size, i.bytes)) = some (some .nilFunc, 1, 8) := by kernel_rfl
@[push_cast] theorem al86 (K : Value → World → Prop) (w : World) : vAlloc Try.prog 86 K w = K (.pointer (some ⟨w.heap.size, 0, none⟩)) (w.alloc (.cells #[.nilFunc] 86)) := vAlloc_ok ti86 K w
@[push_cast] theorem one86 : oneD (Try.prog.underlying 86) = true := by kernel_rfl
@[push_cast] theorem sz90 : szOf Try.prog 90 = some 1 := by kernel_rfl
theorem ti90 : (Try.prog.info? 90).map (fun i => (i.zero, i.size, i.bytes)) = some (some (.int .u64 0), 1, 8) := by kernel_rfl
@[push_cast] theorem al90 (K : Value → World → Prop) (w : World) : vAlloc Try.prog 90 K w = K (.pointer (some ⟨w.heap.size, 0, none⟩)) (w.alloc (.cells #[(.int .u64 0)] 90)) := vAlloc_ok ti90 K w
attribute [push_cast] Try.underlying90
@[push_cast] theorem sz94 : szOf Try.prog 94 = some 1 := by kernel_rfl
theorem ti94 : (Try.prog.info? 94).map (fun i => (i.zero, i.size, i.bytes)) = some (some (.int .i64 0), 1, 8) := by kernel_rfl
@[push_cast] theorem al94 (K : Value → World → Prop) (w : World) : vAlloc Try.prog 94 K w = K (.pointer (some ⟨w.heap.size, 0, none⟩)) (w.alloc (.cells #[(.int .i64 0)] 94)) := vAlloc_ok ti94 K w
attribute [push_cast] Try.underlying94
@[push_cast] theorem sz102 : szOf Try.prog 102 = some 1 := by kernel_rfl
theorem ti102 : (Try.prog.info? 102).map (fun i => (i.zero, i.size, i.bytes)) = some (some (.int .u32 0), 1, 4) := by kernel_rfl
@[push_cast] theorem al102 (K : Value → World → Prop) (w : World) : vAlloc Try.prog 102 K w = K (.pointer (some ⟨w.heap.size, 0, none⟩)) (w.alloc (.cells #[(.int .u32 0)] 102)) := vAlloc_ok ti102 K w
attribute [push_cast] Try.underlying102
@[push_cast] theorem sz104 : szOf Try.prog 104 = some 1 := by kernel_rfl
theorem ti104 : (Try.prog.info? 104).map (fun i => (i.zero, i.size, i.bytes)) = some (some (.int .u64 0), 1, 8) := by kernel_rfl
@[push_cast] theorem al104 (K : Value → World → Prop) (w : World) : vAlloc Try.prog 104 K w = K (.pointer (some ⟨w.heap.size, 0, none⟩)) (w.alloc (.cells #[(.int .u64 0)] 104)) := vAlloc_ok ti104 K w
attribute [push_cast] Try.underlying104
@[push_cast] theorem sz109 : szOf Try.prog 109 = some 1 := by kernel_rfl
theorem ti109 : (Try.prog.info? 109).map (fun i => (i.zero, i.size, i.bytes)) = some (some (.int .u64 0), 1, 8) := by kernel_rfl
@[push_cast] theorem al109 (K : Value → World → Prop) (w : World) : vAlloc Try.prog 109 K w = K (.pointer (some ⟨w.heap.size, 0, none⟩)) (w.alloc (.cells #[(.int .u64 0)] 109)) := vAlloc_ok ti109 K w
attribute [push_cast] Try.underlying109
@[push_cast] theorem sz113 : szOf Try.prog 113 = some 1 := by kernel_rfl
theorem ti113 : (Try.prog.info? 113).map (fun i => (i.zero, i.size, i.bytes)) = some (some (.pointer none), 1, 8) := by kernel_rfl
@[push_cast] theorem al113 (K : Value → World → Prop) (w : World) : vAlloc Try.prog 113 K w = K (.pointer (some ⟨w.heap.size, 0, none⟩)) (w.alloc (.cells #[(.pointer none)] 113)) := vAlloc_ok ti113 K w
attribute [push_cast] Try.underlying113
@[push_cast] theorem sz115 : szOf Try.prog 115 = some 1 := by kernel_rfl
theorem ti115 : (Try.prog.info? 115).map (fun i => (i.zero, i.size, i.bytes)) = some (some (.pointer none), 1, 8) := by kernel_rfl
@[push_cast] theorem al115 (K : Value → World → Prop) (w : World) : vAlloc Try.prog 115 K w = K (.pointer (some ⟨w.heap.size, 0, none⟩)) (w.alloc (.cells #[(.pointer none)] 115)) := vAlloc_ok ti115 K w
attribute [push_cast] Try.underlying115
end Go.Proofs.Ytmfcnooleejgmaa
end
