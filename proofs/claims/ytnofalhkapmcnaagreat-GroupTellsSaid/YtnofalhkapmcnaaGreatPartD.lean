/- What is known of memory: slices that read as lists, slices that a call owns, worlds that have only grown. -/
import Derived.Lib.ConvBytes
import Derived.Lib.AppendStr
import Derived.Laws.BytesArg
import Derived.Laws.MakeOwn
import Derived.Lib.SlBytesConst
import Derived.Carry
import Derived.OpenShut
import Derived.ProofKit
import Derived.Laws.StructEq
import Derived.Maps.AppendAt
import Derived.Test.YtnofalhkapmcnaaGreatProg
import Derived.ChangeSame
import Derived.SizedLaws
import Derived.HandedShaped
import Derived.Test.YtnofalhkapmcnaaGreatChecked
import Derived.Test.YtnofalhkapmcnaaGreatPartC
set_option linter.all false
section
namespace Go.Vc
open Go.RowKit
/-! ### worlds that have only grown -/
theorem Later.size {w w' : World} (h : Later w w') : w.heap.size ≤ w'.heap.size := Below.size h
theorem Later.alloc {w w' : World} (h : Later w w') (o : Obj) : Later w (w'.alloc o) := Below.alloc h (Below.size h) o
theorem later_alloc (w : World) (o : Obj) : Later w (w.alloc o) := (Later.refl w).alloc o
theorem Later.grown {w w1 w' : World} {row : Option Nat} (h : Later w w1) (hg : w1.grownBy w' row) (hr : ∀ k, row = some k → w.heap.size ≤ k) : Later w w' := Below.grown h hg (Below.size h) hr
theorem Later.frozen {w w' : World} (h : Later w w') {a : Addr} (ha : a.block < w.heap.size) : w'.frozen? a = w.frozen? a := Below.frozen h ha
theorem Later.heap {w w' : World} (h : Later w w') {b : Nat} (hb : b < w.heap.size) : w'.heap[b]? = w.heap[b]? := h.block b hb
/-! ### addresses -/
theorem addr_add_add (a : Addr) (m n : Nat) : (a.add m).add n = a.add (m + n) := by
  unfold Addr.add
  by_cases h1 : m = 0
  · subst h1; simp
  · by_cases h2 : n = 0
    · subst h2; simp [h1]
    · have : ¬ m + n = 0 := by omega
      simp [h1, h2, this, Nat.add_assoc]
theorem addr_add_eq (b o n : Nat) : (⟨b, o, none⟩ : Addr).add n = ⟨b, o + n, none⟩ := by unfold Addr.add; split <;> simp_all
/-! ### slices that read as lists of cells: n elements of s cells each -/
def SlN (w : World) (s : Nat) (v : Value) (n : Nat) (xs : List Value) : Prop :=
  xs.length = n * s ∧ ((v = .slice none 0 0 ∧ n = 0) ∨ ∃ a c, v = .slice (some a) n c ∧ n ≤ c ∧ c ≤ maxLen ∧ ∀ i x, xs[i]? = some x → w.cell? (a.add i) = some x)
def Sl (w : World) (v : Value) (xs : List Value) : Prop := SlN w 1 v xs.length xs
theorem SlN.later {w w' : World} {s n : Nat} {v : Value} {xs : List Value} (h : SlN w s v n xs) (hl : Later w w') : SlN w' s v n xs := by
  obtain ⟨h0, h⟩ := h
  refine ⟨h0, ?_⟩
  rcases h with h | ⟨a, c, hv, h1, h2, h3⟩
  · exact .inl h
  · exact .inr ⟨a, c, hv, h1, h2, fun i x hx => hl.cell (h3 i x hx)⟩
theorem Sl.later {w w' : World} {v : Value} {xs : List Value} (h : Sl w v xs) (hl : Later w w') : Sl w' v xs := SlN.later h hl
theorem SlN.open {w : World} {s n : Nat} {v : Value} {xs : List Value} (h : SlN w s v n xs) : ∃ o c, v = .slice o n c ∧ n ≤ c ∧ c ≤ maxLen ∧ xs.length = n * s ∧ (o = none → n = 0 ∧ c = 0) ∧ (∀ a, o = some a → ∀ i x, xs[i]? = some x → w.cell? (a.add i) = some x) := by
  obtain ⟨h0, h⟩ := h
  rcases h with ⟨rfl, rfl⟩ | ⟨a, c, rfl, h1, h2, h3⟩
  · exact ⟨none, 0, rfl, Nat.le_refl _, Nat.zero_le _, h0, fun _ => ⟨rfl, rfl⟩, by intro a ha; cases ha⟩
  · exact ⟨some a, c, rfl, h1, h2, h0, (fun h => by cases h), by intro a' ha; cases ha; exact h3⟩
theorem Sl.open {w : World} {v : Value} {xs : List Value} (h : Sl w v xs) : ∃ o c, v = .slice o xs.length c ∧ xs.length ≤ c ∧ c ≤ maxLen ∧ (o = none → xs = [] ∧ c = 0) ∧ (∀ a, o = some a → ∀ i x, xs[i]? = some x → w.cell? (a.add i) = some x) := by
  obtain ⟨o, c, hv, h1, h2, h3, h4, h5⟩ := SlN.open h
  exact ⟨o, c, hv, h1, h2, fun ho => ⟨List.eq_nil_of_length_eq_zero (h4 ho).1, (h4 ho).2⟩, h5⟩
theorem SlN.mk {w : World} {s : Nat} {o : Option Addr} {xs : List Value} {n c : Nat} (hn : xs.length = n * s) (h1 : n ≤ c) (h2 : c ≤ maxLen) (h0 : o = none → n = 0 ∧ c = 0) (h3 : ∀ a, o = some a → ∀ i x, xs[i]? = some x → w.cell? (a.add i) = some x) : SlN w s (.slice o n c) n xs := by
  refine ⟨hn, ?_⟩
  cases o with
  | none => obtain ⟨rfl, rfl⟩ := h0 rfl; exact .inl ⟨rfl, rfl⟩
  | some a => exact .inr ⟨a, c, rfl, h1, h2, h3 a rfl⟩
theorem SlN.len {w : World} {s : Nat} {a : Option Addr} {xs : List Value} {n n' c : Nat} (h : SlN w s (.slice a n c) n' xs) : n = n' ∧ n ≤ c ∧ c ≤ maxLen ∧ xs.length = n * s ∧ (a = none → n = 0 ∧ c = 0) := by
  obtain ⟨o, c', hv, h1, h2, h0, h3, _⟩ := h.open
  simp only [Value.slice.injEq] at hv
  obtain ⟨rfl, rfl, rfl⟩ := hv
  exact ⟨rfl, h1, h2, h0, h3⟩
theorem SlN.at {w : World} {s : Nat} {a : Addr} {xs : List Value} {n n' c : Nat} (h : SlN w s (.slice (some a) n c) n' xs) {i : Nat} {x : Value} (hx : xs[i]? = some x) : w.cell? (a.add i) = some x := by
  obtain ⟨o, c', hv, h1, h2, h0, _, h3⟩ := h.open
  simp only [Value.slice.injEq] at hv
  obtain ⟨rfl, rfl, rfl⟩ := hv
  exact h3 a rfl i x hx
theorem SlN.sub {w : World} {s : Nat} {a : Option Addr} {xs : List Value} {n n' c : Nat} (h : SlN w s (.slice a n c) n' xs) {l k m : Nat} (hl : l ≤ k) (hk : k ≤ n) (hm : k ≤ m) (hc : m ≤ c) :
    SlN w s (.slice (if m = l then a else a.map (·.add (l * s))) (k - l) (m - l)) (k - l) ((xs.take (k * s)).drop (l * s)) := by
  obtain ⟨rfl, h1, h2, h3, h0⟩ := h.len
  have hks : k * s ≤ n * s := Nat.mul_le_mul_right _ hk
  have hls : l * s ≤ k * s := Nat.mul_le_mul_right _ hl
  refine SlN.mk (by simp [Nat.sub_mul]; omega) (by omega) (by omega) ?_ ?_
  · intro ho
    have ha : a = none := by
      split at ho
      · exact ho
      · cases a with | none => rfl | some _ => cases ho
    obtain ⟨rfl, rfl⟩ := h0 ha
    omega
  · intro b hb i x hx
    rw [List.getElem?_drop, List.getElem?_take] at hx
    split at hx
    · rename_i hlt
      split at hb
      · rename_i e
        have : k = l := by omega
        subst this; omega
      · cases a with
        | none => cases hb
        | some a =>
          simp only [Option.map_some, Option.some.injEq] at hb
          subst hb
          rw [addr_add_add]
          exact h.at hx
    · cases hx
theorem SlN.part {w : World} {s : Nat} {a : Option Addr} {xs : List Value} {n n' c : Nat} (h : SlN w s (.slice a n c) n' xs) {l k m : Int} (h0 : 0 ≤ l) (hl : l ≤ k) (hk : k ≤ n) (hm : k ≤ m) (hc : m ≤ c) :
    SlN w s (.slice (slAddr a l m s) (k - l).toNat (m - l).toNat) (k - l).toNat ((xs.take (k.toNat * s)).drop (l.toNat * s)) := by
  have := h.sub (l := l.toNat) (k := k.toNat) (m := m.toNat) (by omega) (by omega) (by omega) (by omega)
  have e1 : (m.toNat = l.toNat) = (m = l) := by rw [eq_iff_iff]; omega
  have e2 : (k - l).toNat = k.toNat - l.toNat := by omega
  have e3 : (m - l).toNat = m.toNat - l.toNat := by omega
  unfold slAddr
  rw [e2, e3]
  simpa only [e1] using this
theorem Sl.len {w : World} {a : Option Addr} {xs : List Value} {n c : Nat} (h : Sl w (.slice a n c) xs) : n = xs.length ∧ n ≤ c ∧ c ≤ maxLen ∧ (a = none → xs = [] ∧ c = 0) := by
  obtain ⟨h1, h2, h3, h4, h5⟩ := SlN.len h
  refine ⟨h1, h2, h3, fun ha => ⟨List.eq_nil_of_length_eq_zero ?_, (h5 ha).2⟩⟩
  rw [h4, (h5 ha).1]
theorem Sl.at {w : World} {a : Addr} {xs : List Value} {n c : Nat} (h : Sl w (.slice (some a) n c) xs) {i : Nat} {x : Value} (hx : xs[i]? = some x) : w.cell? (a.add i) = some x := SlN.at h hx
theorem SlN.of_own {w : World} {base s : Nat} {e : TypeId} {v : Value} {n : Nat} {xs : List Value} (h : w.ownsRow base e s v n xs) : SlN w s v n xs := by
  obtain ⟨hl, h⟩ := h
  refine ⟨hl, ?_⟩
  rcases h with ⟨rfl, rfl⟩ | ⟨g, cap, cur, rfl, hb, hh, h1, h2, h3, h4⟩
  · exact .inl ⟨rfl, rfl⟩
  · refine .inr ⟨⟨g, 0, none⟩, cap, rfl, h1, h2, fun i x hx => ?_⟩
    rw [addr_add_eq, Nat.zero_add]
    have hi : i < n * s := by have := (List.getElem?_eq_some_iff.1 hx).1; omega
    simp only [World.cell?, hh]
    rw [← h4, List.getElem?_take, if_pos hi] at hx
    simpa using hx
theorem Sl.of_own {w : World} {base : Nat} {e : TypeId} {v : Value} {n : Nat} {xs : List Value} (h : w.ownsRow base e 1 v n xs) : Sl w v xs := by
  have := SlN.of_own h
  have e : n = xs.length := by have := h.1; omega
  subst e; exact this
theorem own_later {w w' : World} {base s : Nat} {e : TypeId} {v : Value} {n : Nat} {xs : List Value} (h : w.ownsRow base e s v n xs) (hl : Later w w') : w'.ownsRow base e s v n xs := by
  obtain ⟨h0, h⟩ := h
  refine ⟨h0, ?_⟩
  rcases h with h | ⟨g, cap, cur, hv, hb, hh, h⟩
  · exact .inl h
  · exact .inr ⟨g, cap, cur, hv, hb, (hl.heap (Array.getElem?_eq_some_iff.1 hh).1).trans hh, h⟩
theorem own_base {w : World} {base base' s : Nat} {e : TypeId} {v : Value} {n : Nat} {xs : List Value} (h : w.ownsRow base e s v n xs) (hb : base' ≤ base) : w.ownsRow base' e s v n xs := by
  obtain ⟨h0, h⟩ := h
  refine ⟨h0, ?_⟩
  rcases h with h | ⟨g, cap, cur, hv, hb', hh⟩
  · exact .inl h
  · exact .inr ⟨g, cap, cur, hv, Nat.le_trans hb hb', hh⟩
/-! ### append -/
section
variable {P : Program} {w : World} {K : Value → World → Prop} {t e ty : TypeId} {z : Value} {s b : Nat}
theorem run_append_nil_src (ht : P.underlying t = some (.slice e)) (hi : (P.info? e).map (fun i => (i.zero, i.size, i.bytes)) = some (some z, s, b)) (o : Option Addr) (n c : Nat) (hn : n ≤ c) (ho : o = none → n = 0) :
    (Builtin.append_ #[t, t] ty #[.slice o n c, .slice none 0 0]).run P w = .ok (.slice o n c) w := by
  obtain ⟨i, hi1, _, _, _⟩ := info_parts hi
  cases o with
  | none => simp [Builtin.append_, run_underlying ht, sizeOf, typeInfo, hi1, Builtin.lenOf, Builtin.firstCells, hn]
  | some a => simp [Builtin.append_, run_underlying ht, sizeOf, typeInfo, hi1, Builtin.lenOf, Builtin.firstCells, hn, storeCells]
theorem vAppend_own (ht : P.underlying t = some (.slice e)) (hi : (P.info? e).map (fun i => (i.zero, i.size, i.bytes)) = some (some z, s, b)) (hzs : z.cells.size = s) (hsz : 0 < s)
    {base : Nat} {v x : Value} {n m : Nat} {xs news : List Value} (hown : w.ownsRow base e s v n xs) (hx : SlN w s x m news) (h1 : ∀ u ∈ news, u.oneCell' = true) (h63 : n + m ≤ maxLen) (hb : (n + m) * b ≤ 140737488355328) (hbase : base ≤ w.heap.size)
    (hK : ∀ v' w', w'.ownsRow base e s v' (n + m) (xs ++ news) → w.grownBy w' v.ownBlock → (v' = .slice none 0 0 ↔ v = .slice none 0 0 ∧ m = 0) → K v' w') : vAppend P #[t, t] ty #[v, x] K w := by
  obtain ⟨i, hi1, hz, hsi, hbi⟩ := info_parts hi
  unfold vAppend
  obtain ⟨hl, hx⟩ := hx
  rcases hx with ⟨rfl, rfl⟩ | ⟨a, c, rfl, hc1, hc2, hc3⟩
  · have hnews : news = [] := List.eq_nil_of_length_eq_zero (by simpa using hl)
    subst hnews
    have hsl := SlN.of_own hown
    obtain ⟨o, c, rfl, h1, h2, h3, h4, _⟩ := hsl.open
    rw [run_val_pure (run_append_nil_src ht hi o n c h1 (fun ho => (h4 ho).1))]
    refine hK _ _ (by simpa using hown) ⟨rfl, rfl, rfl, Nat.le_refl _, fun _ _ _ => rfl⟩ ?_
    constructor
    · intro h; exact ⟨h, rfl⟩
    · intro h; exact h.1
  · obtain ⟨v', w', hr, h2, h3, h4⟩ := run_append_own (P := P) w base t ty e i z s b ht hi1 hz hsi hbi hzs hsz v n xs hown a m c news hl hc3 h1 h63 hb hbase
    rw [run_val_pure hr]
    exact hK _ _ h2 h3 h4
end
theorem heap_new (w : World) (o : Obj) : (w.alloc o).heap[w.heap.size]? = some o := by
  show (w.heap.push o)[w.heap.size]? = _
  simp
theorem SlN.lit (w : World) (l : List Value) (e : TypeId) (s n : Nat) (h : l.length = n * s) (hn : n ≤ maxLen) : SlN (w.alloc (.cells l.toArray e)) s (.slice (some ⟨w.heap.size, 0, none⟩) n n) n l := by
  refine SlN.mk h (Nat.le_refl _) hn (fun h => by cases h) ?_
  intro a ha i x hx
  simp only [Option.some.injEq] at ha
  subst ha
  rw [addr_add_eq, Nat.zero_add]
  have : (w.alloc (.cells l.toArray e)).heap[w.heap.size]? = some (.cells l.toArray e) := heap_new w _
  simp only [World.cell?, this]
  simpa using hx
theorem Sl.lit (w : World) (l : List Value) (e : TypeId) (hn : l.length ≤ maxLen) : Sl (w.alloc (.cells l.toArray e)) (.slice (some ⟨w.heap.size, 0, none⟩) l.length l.length) l := SlN.lit w l e 1 l.length (by simp) hn
theorem Sl.one (w : World) (x : Value) (e : TypeId) : Sl (w.alloc (.cells #[x] e)) (.slice (some ⟨w.heap.size, 0, none⟩) 1 1) [x] := Sl.lit w [x] e (by unfold maxLen; simp)
theorem own_nil (w : World) (base : Nat) (e : TypeId) (s : Nat) : w.ownsRow base e s (.slice none 0 0) 0 [] := World.ownsRow_nil w base e s
theorem own_alloc {w : World} {base s : Nat} {e : TypeId} {v : Value} {n : Nat} {xs : List Value} (h : w.ownsRow base e s v n xs) (o : Obj) : (w.alloc o).ownsRow base e s v n xs := World.ownsRow.alloc h o
theorem Later.appended {w w2 w' : World} {base s n : Nat} {e : TypeId} {v : Value} {xs : List Value} (hl : Later w w2) (hown : w2.ownsRow base e s v n xs) (hb : w.heap.size ≤ base) (hg : w2.grownBy w' v.ownBlock) : Later w w' :=
  hl.grown hg fun k hk => by have := (World.ownsRow.lt hown) k hk; omega
theorem vAppend_one {P : Program} {w : World} {K : Value → World → Prop} {t e ty : TypeId} {z : Value} {b : Nat} (ht : P.underlying t = some (.slice e)) (hi : (P.info? e).map (fun i => (i.zero, i.size, i.bytes)) = some (some z, 1, b)) (hzs : z.cells.size = 1)
    {base : Nat} {v x : Value} {n : Nat} {xs : List Value} (hown : w.ownsRow base e 1 v n xs) (h1 : x.oneCell' = true) (h63 : n + 1 ≤ maxLen) (hb : (n + 1) * b ≤ 140737488355328) (hbase : base ≤ w.heap.size)
    (hK : ∀ v' w', w'.ownsRow base e 1 v' (n + 1) (xs ++ [x]) → (∀ w0, Later w0 w → w0.heap.size ≤ base → Later w0 w') → K v' w') : vAppend P #[t, t] ty #[v, .slice (some ⟨w.heap.size, 0, none⟩) 1 1] K (w.alloc (.cells #[x] e)) := by
  refine vAppend_own ht hi hzs (by omega) (own_alloc hown _) (Sl.one w x e) (by simpa using h1) h63 hb (by simp; omega) ?_
  intro v' w' ho hg _
  exact hK v' w' ho fun w0 hl hb => (hl.alloc _).appended (own_alloc hown _) hb hg
/-! ### bytes and texts -/
section
variable {P : Program} {w : World} {K : Value → World → Prop}
theorem cellsAt_of (n : Nat) : ∀ (a : Addr) (xs : List Value), xs.length = n → (∀ i x, xs[i]? = some x → w.cell? (a.add i) = some x) → cellsAt w a n = some xs := by
  induction n with
  | zero => intro a xs h _; simp [cellsAt, List.eq_nil_of_length_eq_zero h]
  | succ n ih =>
    intro a xs h hc
    cases xs with
    | nil => simp at h
    | cons x xs =>
      have h0 := hc 0 x rfl
      rw [addr_add_zero] at h0
      simp only [cellsAt, h0]
      rw [ih (a.add 1) xs (by simpa using h) (fun i y hy => by
        rw [addr_add_add, Nat.add_comm 1 i]; exact hc (i + 1) y (by simpa using hy))]
end
theorem Sl.slice {w : World} {v : Value} {l : List Value} (h : Sl w v l) : ∃ o c, v = .slice o l.length c := by
  obtain ⟨o, c, hv, _⟩ := h.open
  exact ⟨o, c, hv⟩
end Go.Vc
end
section
namespace Go.Vc
open Go.RowKit
def Blk (w : World) (k : Nat) (cs : Array Value) (e : TypeId) : Prop := w.heap[k]? = some (.cells cs e (0, 0))
theorem Blk.lt {w : World} {k : Nat} {cs : Array Value} {e : TypeId} (h : Blk w k cs e) : k < w.heap.size := by
  unfold Blk at h
  by_cases hk : k < w.heap.size
  · exact hk
  · rw [Array.getElem?_eq_none (by omega)] at h; cases h
theorem Blk.cell {w : World} {k : Nat} {cs : Array Value} {e : TypeId} (h : Blk w k cs e) (i : Nat) : w.cell? ⟨k, i, none⟩ = cs[i]? := by
  unfold Blk at h
  simp [World.cell?, h]
theorem Blk.frozen {w : World} {k : Nat} {cs : Array Value} {e : TypeId} (h : Blk w k cs e) (i : Nat) : w.frozen? ⟨k, i, none⟩ = false := by
  unfold Blk at h
  simp [World.frozen?, h]
theorem Blk.set {w : World} {k : Nat} {cs : Array Value} {e : TypeId} (h : Blk w k cs e) (i : Nat) (v : Value) : Blk (w.setCell ⟨k, i, none⟩ v) k (cs.setIfInBounds i v) e := by
  unfold Blk at h ⊢
  simp [World.setCell, Array.getElem?_modify, h]
theorem Blk.new (w : World) (cs : Array Value) (e : TypeId) : Blk (w.alloc (.cells cs e)) w.heap.size cs e := heap_new w _
structure Chg (w w' : World) (ks : List Nat) : Prop where
  os : w'.os = w.os
  tape : w'.tape = w.tape
  output : w'.output = w.output
  size : w.heap.size ≤ w'.heap.size
  block : ∀ k, k < w.heap.size → k ∉ ks → w'.heap[k]? = w.heap[k]?
theorem Chg.refl (w : World) (ks : List Nat) : Chg w w ks := ⟨rfl, rfl, rfl, Nat.le_refl _, fun _ _ _ => rfl⟩
theorem Chg.trans {a b c : World} {ks : List Nat} (h : Chg a b ks) (g : Chg b c ks) : Chg a c ks :=
  ⟨g.os.trans h.os, g.tape.trans h.tape, g.output.trans h.output, Nat.le_trans h.size g.size, fun k hk hn => (g.block k (Nat.lt_of_lt_of_le hk h.size) hn).trans (h.block k hk hn)⟩
theorem Chg.mono {a b : World} {ks js : List Nat} (h : Chg a b ks) (hs : ∀ k ∈ ks, k ∈ js) : Chg a b js :=
  ⟨h.os, h.tape, h.output, h.size, fun k hk hn => h.block k hk fun hm => hn (hs k hm)⟩
theorem Chg.of_later {a b : World} {ks : List Nat} (h : Later a b) : Chg a b ks := ⟨h.os, h.tape, h.output, h.size, fun k hk _ => h.block k hk⟩
theorem Chg.later {a b c : World} {ks : List Nat} (h : Later a b) (g : Chg b c ks) (hk : ∀ k ∈ ks, a.heap.size ≤ k) : Later a c :=
  ⟨g.os.trans h.os, g.tape.trans h.tape, g.output.trans h.output, Nat.le_trans h.size g.size, fun k hka => (g.block k (Nat.lt_of_lt_of_le hka h.size) fun hm => by have := hk k hm; omega).trans (h.block k hka)⟩
theorem chg_setCell (w : World) {k i : Nat} {ks : List Nat} (hk : k ∈ ks) (v : Value) : Chg w (w.setCell ⟨k, i, none⟩ v) ks :=
  ⟨rfl, rfl, rfl, by simp [World.setCell], fun j _ hn => by
    have : k ≠ j := fun e => hn (e ▸ hk)
    simp [World.setCell, Array.getElem?_modify, this]⟩
theorem Blk.chg {w w' : World} {ks : List Nat} {k : Nat} {cs : Array Value} {e : TypeId} (h : Blk w k cs e) (g : Chg w w' ks) (hk : k ∉ ks) : Blk w' k cs e := by
  have := g.block k h.lt hk
  unfold Blk at h ⊢
  rw [this, h]
theorem own_lit (w : World) (l : List Value) (e : TypeId) (s n : Nat) (h : l.length = n * s) (hn : n ≤ maxLen) {base : Nat} (hb : base ≤ w.heap.size) : (w.alloc (.cells l.toArray e)).ownsRow base e s (.slice (some ⟨w.heap.size, 0, none⟩) n n) n l := by
  refine ⟨h, .inr ⟨w.heap.size, n, l.toArray, rfl, hb, heap_new w _, Nat.le_refl _, hn, by simpa using h, ?_⟩⟩
  rw [← h]; simp
theorem Chg.of_grown {w w' : World} {row : Option Nat} (g : w.grownBy w' row) : Chg w w' row.toList :=
  ⟨g.os, g.tape, g.output, g.size, fun k hk hn => g.block k hk fun h => hn (by simp [h])⟩
end Go.Vc
end
section
namespace Go.Vc
open Go.RowKit
section
variable {P : Program} {w : World} {K : Value → World → Prop} {t e : TypeId} {z : Value} {b : Nat}
end
theorem Sl.of_blk {w : World} {k n : Nat} {xs : List Value} {e : TypeId} (h : Blk w k xs.toArray e) (hn : n = xs.length) (hm : n ≤ maxLen) : Sl w (.slice (some ⟨k, 0, none⟩) n n) xs := by
  subst hn
  refine SlN.mk (by simp) (Nat.le_refl _) hm (fun h => by cases h) ?_
  intro a ha i x hx
  simp only [Option.some.injEq] at ha
  subst ha
  rw [addr_add_eq, Nat.zero_add, h.cell]
  simpa using hx
theorem Blk.setL {w : World} {k i : Nat} {xs : List Value} {e : TypeId} (h : Blk w k xs.toArray e) (v : Value) : Blk (w.setCell ⟨k, i, none⟩ v) k (xs.set i v).toArray e := by
  have := h.set i v
  simpa using this
/-! ### a block that is new, of one cell: looked at, written -/
section
variable {w : World} {e : TypeId}
@[push_cast] theorem cell_new1 (z : Value) : (w.alloc (.cells #[z] e)).cell? ⟨w.heap.size, 0, none⟩ = some z := (Blk.new w #[z] e).cell 0
@[push_cast] theorem frozen_new (cs : Array Value) (i : Nat) : (w.alloc (.cells cs e)).frozen? ⟨w.heap.size, i, none⟩ = false := (Blk.new w cs e).frozen i
@[push_cast] theorem set_new1 (z v : Value) : (w.alloc (.cells #[z] e)).setCell ⟨w.heap.size, 0, none⟩ v = w.alloc (.cells #[v] e) := by
  show World.setCell { w with heap := w.heap.push _ } _ _ = { w with heap := w.heap.push _ }
  simp only [World.setCell]
  congr 1
  apply Array.ext_getElem?
  intro i
  simp only [Array.getElem?_modify, Array.getElem?_push]
  by_cases h : i = w.heap.size
  · subst h; simp
  · rw [if_neg h, if_neg (fun e => h e.symm), if_neg h]
@[push_cast] theorem ex_some (z : Value) : (∃ y, some z = some y) = True := by simp
@[push_cast] theorem tr_and (p : Prop) : (True ∧ p) = p := by simp
end
theorem Sl.openM {α : Type} {f : α → Value} {w : World} {v : Value} {l : List α} (h : Sl w v (l.map f)) : ∃ o c, v = .slice o l.length c ∧ l.length ≤ c ∧ c ≤ 9223372036854775807 ∧ Sl w (.slice o l.length c) (l.map f) ∧ (o = none → l = [] ∧ c = 0) := by
  have h' := h
  obtain ⟨o, c, rfl, h1, h2, h3, _⟩ := h.open
  simp only [List.length_map] at h1 h'
  refine ⟨o, c, by simp, h1, by simpa [maxLen] using h2, h', fun ho => ⟨by simpa using (h3 ho).1, (h3 ho).2⟩⟩
theorem take_snoc {α : Type} (l : List α) (i : Nat) (h : i < l.length) : l.take (i + 1) = l.take i ++ [l[i]] := by
  rw [List.take_add_one, List.getElem?_eq_getElem h]; rfl
theorem Sl.some {α : Type} {f : α → Value} {w : World} {o : Option Addr} {l : List α} {n c : Nat} (h : Sl w (.slice o n c) (l.map f)) {i : Nat} (hi : i < l.length) : ∃ a, o = Option.some a := by
  cases o with
  | none => have := (h.len.2.2.2 rfl).1; simp at this; subst this; simp at hi
  | some a => exact ⟨a, rfl⟩
theorem list_splice {l : List Value} {i : Nat} {x : Value} {xs : List Value} (h : i < l.length) : (l.set i x).take (i + 1) ++ xs ++ (l.set i x).drop (i + 1 + xs.length) = l.take i ++ x :: xs ++ l.drop (i + (xs.length + 1)) := by
  have e1 : (l.set i x).take (i + 1) = l.take i ++ [x] := by
    rw [List.take_add_one, List.getElem?_set_self h, List.take_set_of_le (Nat.le_refl _)]; rfl
  have e2 : (l.set i x).drop (i + 1 + xs.length) = l.drop (i + (xs.length + 1)) := by
    rw [List.drop_set_of_lt (by omega)]; congr 1; omega
  rw [e1, e2]; simp
theorem storeAll_blk {k : Nat} {e : TypeId} : ∀ (xs : List Value) (i : Nat) (w : World) (l : List Value), Blk w k l.toArray e → i + xs.length ≤ l.length →
    canAll w ⟨k, i, none⟩ xs ∧ Blk (storeAll w ⟨k, i, none⟩ xs) k (l.take i ++ xs ++ l.drop (i + xs.length)).toArray e ∧ Chg w (storeAll w ⟨k, i, none⟩ xs) [k]
  | [], i, w, l, h, hl => by
    refine ⟨trivial, ?_, Chg.refl _ _⟩
    simpa [storeAll] using h
  | x :: xs, i, w, l, h, hl => by
    simp only [List.length_cons] at hl
    have h1 := h.setL (i := i) x
    have g1 := chg_setCell w (i := i) (ks := [k]) (k := k) (by simp) x
    obtain ⟨c2, b2, g2⟩ := storeAll_blk xs (i + 1) (w.setCell ⟨k, i, none⟩ x) (l.set i x) h1 (by simp; omega)
    have ea : (⟨k, i, none⟩ : Addr).add 1 = ⟨k, i + 1, none⟩ := addr_add_eq k i 1
    have hcan : ∀ (ys : List Value) (j : Nat) (w : World) (l : List Value), Blk w k l.toArray e → j + ys.length ≤ l.length → canAll w ⟨k, j, none⟩ ys := by
      intro ys
      induction ys with
      | nil => intro j w l _ _; trivial
      | cons y ys ih =>
        intro j w l h hl
        simp only [List.length_cons] at hl
        refine ⟨?_, h.frozen j, ?_⟩
        · rw [h.cell]; exact ⟨l[j]'(by omega), by simp⟩
        · rw [addr_add_eq]; exact ih (j + 1) w l h (by omega)
    refine ⟨hcan (x :: xs) i w l h (by simp; omega), ?_, ?_⟩
    · show Blk (storeAll (w.setCell ⟨k, i, none⟩ x) ((⟨k, i, none⟩ : Addr).add 1) xs) k _ e
      rw [ea]
      have := b2
      rw [list_splice (by omega)] at this
      exact this
    · show Chg w (storeAll (w.setCell ⟨k, i, none⟩ x) ((⟨k, i, none⟩ : Addr).add 1) xs) [k]
      rw [ea]; exact g1.trans g2
theorem vStore_blk {P : Program} {w : World} {K : Value → World → Prop} {t e : TypeId} {k s : Nat} {l xs : List Value} (h : Blk w k l.toArray e) (hl : l.length = s) (hx : xs.length = s) (h1 : ∀ u ∈ xs, u.oneCell' = true)
    (hK : ∀ w', Blk w' k xs.toArray e → Chg w w' [k] → K undef w') : vStoreD P t (some s) (.pointer (some ⟨k, 0, none⟩)) (.agg xs.toArray) K w := by
  obtain ⟨c, b, g⟩ := storeAll_blk xs 0 w l h (by omega)
  refine ⟨by simp [Value.cells, hx], by simpa [Value.cells] using h1, by simpa [Value.cells] using c, hK _ ?_ (by simpa [Value.cells] using g)⟩
  have e : (l.take 0 ++ xs ++ l.drop (0 + xs.length)) = xs := by simp [hx, hl]
  rw [e] at b
  simpa [Value.cells] using b
theorem Blk.cellsAt {w : World} {k : Nat} {l : List Value} {e : TypeId} (h : Blk w k l.toArray e) : cellsAt w ⟨k, 0, none⟩ l.length = some l := by
  refine cellsAt_of _ _ l rfl fun i x hx => ?_
  rw [addr_add_eq, Nat.zero_add, h.cell]; simpa using hx
def RowV (w0 : World) (e : TypeId) (cs : Array Value) (n : Nat) (x : Value) (w : World) : Prop := ∃ b, x = .slice (some ⟨b, 0, none⟩) n n ∧ w0.heap.size ≤ b ∧ Blk w b cs e
theorem stb_row (w0 : World) (e : TypeId) (cs : Array Value) (n : Nat) : Stb w0 (RowV w0 e cs n) := by
  rintro v w w' _ hl ⟨b, hv, hb, h⟩
  exact ⟨b, hv, hb, h.chg (Chg.of_later (ks := []) hl) (by simp)⟩
theorem RowV.new {w0 w : World} (h : Later w0 w) (e : TypeId) (cs : Array Value) (n : Nat) : Later w (w.alloc (.cells cs e)) ∧ RowV w0 e cs n (.slice (some ⟨w.heap.size, 0, none⟩) n n) (w.alloc (.cells cs e)) :=
  ⟨later_alloc _ _, w.heap.size, rfl, h.size, Blk.new _ _ _⟩
end Go.Vc
end
section
namespace Go.Vc
open Go.RowKit
end Go.Vc
end
section
namespace Go.Vc
open Go.RowKit Go.ChangeShapes
section
variable {H : Type} {enc : TypeId × Value → H} {P : Program}
theorem trodAll_stays (hl : laidOutB P = true) {W W' : World} {sp' : Nat → Bool} : ∀ {ts : List TypeId} {vs : List Value} {ds : List (DataW H)} {ps : List MemPlace},
    (∀ t ∈ ts, P.readableRec t = true ∧ t < P.types.size) → DataW.TrodAll enc P W 0 (fun _ => true) true ts vs ds ps → (∀ p ∈ ps, W.sameAt W' p) → (∀ p ∈ ps, sp' p.block = true) → DataW.TrodAll enc P W' 0 sp' true ts vs ds ps
  | [], [], [], _, _, h, _, _ => h
  | t :: ts, v :: vs, d :: ds, ps, ht, ⟨p, q, h1, h2, e⟩, hs, hp => by
    subst e
    refine ⟨p, q, WideElems.Trod_stays hl (ht t (by simp)).1 (ht t (by simp)).2 h1 (fun x hx => hs x (by simp [hx])) (fun x hx => hp x (by simp [hx])), ?_, rfl⟩
    exact trodAll_stays hl (fun u hu => ht u (by simp [hu])) h2 (fun x hx => hs x (by simp [hx])) (fun x hx => hp x (by simp [hx]))
theorem later_kept {W W' : World} (h : Later W W') (may : MemPlace → Prop) : W.keptBut W' may := by
  refine ⟨h.os, h.output, fun i hi => ?_⟩
  rw [h.block i hi]
  cases hb : W.heap[i]? with
  | none => simp
  | some o =>
    cases o with
    | cells c t fr => simp
    | map es k => simp
    | chan => simp
    | _ => simp
theorem trodAll_ps_len : ∀ {W : World} {b : Nat} {sp : Nat → Bool} {hd : Bool} {ts : List TypeId} {vs : List Value} {ds : List (DataW H)} {ps : List MemPlace}, DataW.TrodAll enc P W b sp hd ts vs ds ps → vs.length = ts.length ∧ ds.length = ts.length
  | _, _, _, _, [], [], [], _, _ => ⟨rfl, rfl⟩
  | W, b, sp, hd, _ :: ts, _ :: vs, _ :: ds, _, ⟨_, _, _, h2, _⟩ => by
    have := trodAll_ps_len h2
    exact ⟨by simp [this.1], by simp [this.2]⟩
theorem post_later {f : Func} {s : ChangeSpec} {apart fresh handsOn again : Bool} {W W' : World} {args : Array Value} {ds gs : List (DataW H)} {before : List MemPlace} {tb : TypeId}
    (hl : laidOutB P = true) (hts : ∀ t ∈ f.params.toList, P.readableRec t = true ∧ t < P.types.size) (hr : f.resultTypes = #[tb]) (htb : P.underlying tb = some .bool)
    (hv : s.vars = []) (hfn : s.fn H ds = { results := [.lit (.bool true)], args := ds })
    (hW : DataW.Whole enc P f.params.toList s.vars apart W args.toList ds gs before) (h : Later W W') :
    s.post enc P f apart fresh handsOn again W args (.bool true) W' := by
  have hlt := hW.lt
  have hW' := hW
  obtain ⟨p, q, hA, hV, rfl, hfz, hnd⟩ := hW
  rw [hv] at hV
  obtain ⟨rfl, rfl⟩ := trodVars_none hV
  have same : ∀ x ∈ p, W.sameAt W' x := fun x hx => Below.same h (hlt x (by simp [hx]))
  have hargs : ∀ sp : Nat → Bool, (∀ x ∈ p, sp x.block = true) → DataW.TrodAll enc P W' 0 sp true f.params.toList args.toList ds p := fun sp hsp => trodAll_stays hl hts hA same hsp
  have hres : ∀ (b : Nat) (sp : Nat → Bool) (hd : Bool), DataW.TrodAll enc P W' b sp hd f.resultTypes.toList ((Value.bool true).resultList f.resultTypes.size) [.lit (.bool true)] [] := by
    intro b sp hd
    rw [hr]
    exact trodAll_cons_mk (shut_bool htb _) trodAll_mk0
  refine ⟨ds, [], p ++ [], [], p, [], hW', ?_, ?_, ?_, later_kept h _, fun _ => ?_⟩
  · rw [List.append_nil, hfn]; exact hres _ _ _
  · rw [List.append_nil, hfn]; exact hargs _ (fun x hx => by simpa using hlt x (by simp [hx]))
  · rw [hv, List.append_nil, hfn]; rfl
  · refine ⟨?_, [.lit (.bool true)] ++ ds, [], p, ⟨p, [], ?_, ?_, by simp, ?_, ?_⟩, ?_⟩
    · intro j t r h1 h2
      rw [hr] at h1 h2
      exact ok_one (f := f) hr rfl (okWide_bool_mk htb _) j t r (by rw [hr]; exact h1) (by rw [hr]; exact h2)
    · have := trodAll_append (hargs (fun _ => true) (fun _ _ => rfl)) (hres 0 (fun _ => true) true)
      simpa using this
    · rw [hv]; rfl
    · intro b off hp
      have := hlt _ (show MemPlace.cell b off ∈ p ++ [] by simpa using hp)
      rw [h.frozen (by exact this)]
      exact hfz b off (by simpa using hp)
    · intro ha; simpa using hnd ha
    · intro x hx _; simpa using hx
end
section
variable {H : Type} {enc : TypeId × Value → H} {P : Program} {w : World} {sp : Nat → Bool} {hd : Bool}
theorem forall_rows {n : Nat} {R : Nat → List Value → Prop} (h : ∀ i, i < n → ∃ r, R i r) : ∃ rows : List (List Value), rows.length = n ∧ ∀ i r, rows[i]? = some r → R i r := by
  induction n with
  | zero => exact ⟨[], rfl, fun i r hr => by simp at hr⟩
  | succ n ih =>
    obtain ⟨rows, hl, hr⟩ := ih fun i hi => h i (by omega)
    obtain ⟨r, hr'⟩ := h n (by omega)
    refine ⟨rows ++ [r], by simp [hl], fun i x hx => ?_⟩
    by_cases hi : i < n
    · rw [List.getElem?_append_left (by omega)] at hx
      exact hr i x hx
    · rw [List.getElem?_append_right (by omega)] at hx
      have : i = n := by
        by_cases h2 : i - rows.length = 0
        · omega
        · rw [List.getElem?_eq_none (by simp; omega)] at hx; cases hx
      subst this
      simp [hl] at hx
      exact hx ▸ hr'
theorem flatten_at {s : Nat} : ∀ (rows : List (List Value)), (∀ r ∈ rows, r.length = s) → ∀ (i : Nat) (x : Value), rows.flatten[i]? = some x → ∃ k j r, i = k * s + j ∧ j < s ∧ rows[k]? = some r ∧ r[j]? = some x
  | [], _, i, x, h => by simp at h
  | r :: rows, hl, i, x, h => by
    rw [List.flatten_cons] at h
    have hr := hl r (by simp)
    by_cases hi : i < r.length
    · rw [List.getElem?_append_left hi] at h
      exact ⟨0, i, r, by simp, by omega, rfl, h⟩
    · rw [List.getElem?_append_right (by omega)] at h
      obtain ⟨k, j, r', e, hj, hk, hx⟩ := flatten_at rows (fun r' h' => hl r' (by simp [h'])) (i - r.length) x h
      exact ⟨k + 1, j, r', by rw [Nat.add_mul]; omega, hj, by simpa using hk, hx⟩
theorem slice_cells {t e : TypeId} {v : Value} {r : Reach} {b0 : Nat} (ht : P.underlying t = some (.slice e)) (hval : Value.okWide P w r b0 t v) : v.cells.toList = [v] := by
  simp only [Value.okWide, ht] at hval
  cases v <;> simp [Cell.okWide, Cell.ok, ht] at hval <;> rfl
end
theorem list_all {P : Program} {ts : List TypeId} (h : (ts.all fun t => P.readableRec t && decide (t < P.types.size)) = true) : ∀ t ∈ ts, P.readableRec t = true ∧ t < P.types.size := by
  intro t ht
  have := List.all_eq_true.1 h t ht
  simpa using this
theorem i64_of_wf {n : Int} (h : (Lit.int .i64 n).wf = true) : -9223372036854775808 ≤ n ∧ n ≤ 9223372036854775807 := by
  simp only [Lit.wf, Bool.and_eq_true, decide_eq_true_eq] at h
  exact h
end Go.Vc
end
section
namespace Go.Vc
open Go.RowKit
theorem flatten_get {s : Nat} : ∀ (rows : List (List Value)), (∀ r ∈ rows, r.length = s) → ∀ (k j : Nat) (r : List Value) (x : Value), rows[k]? = some r → r[j]? = some x → rows.flatten[k * s + j]? = some x
  | [], _, k, j, r, x, h, _ => by simp at h
  | q :: rows, hl, 0, j, r, x, h, hx => by
    simp only [List.getElem?_cons_zero, Option.some.injEq] at h
    subst h
    have : j < q.length := (List.getElem?_eq_some_iff.1 hx).1
    rw [List.flatten_cons, Nat.zero_mul, Nat.zero_add, List.getElem?_append_left this]; exact hx
  | q :: rows, hl, k + 1, j, r, x, h, hx => by
    have hq := hl q (by simp)
    have ih := flatten_get rows (fun r' h' => hl r' (by simp [h'])) k j r x (by simpa using h) hx
    rw [List.flatten_cons, Nat.add_mul, List.getElem?_append_right (by omega)]
    rw [← ih]; congr 1; omega
theorem SlN.row {w : World} {s n n' c : Nat} {a : Addr} {rows : List (List Value)} (h : SlN w s (.slice (some a) n c) n' rows.flatten) (hl : ∀ r ∈ rows, r.length = s) {k : Nat} {r : List Value} (hr : rows[k]? = some r) : cellsAt w (a.add (k * s)) s = some r := by
  refine cellsAt_of s _ r (hl r (List.mem_of_getElem? hr)) fun j x hx => ?_
  rw [addr_add_add]
  exact h.at (flatten_get rows hl k j r x hr hx)
theorem SlN.rowCell {w : World} {s n n' c : Nat} {a : Addr} {rows : List (List Value)} (h : SlN w s (.slice (some a) n c) n' rows.flatten) (hl : ∀ r ∈ rows, r.length = s) {k j : Nat} {r : List Value} {x : Value} (hr : rows[k]? = some r) (hx : r[j]? = some x) : w.cell? ((a.add (k * s)).add j) = some x := by
  rw [addr_add_add]
  exact h.at (flatten_get rows hl k j r x hr hx)
theorem storeAll_new (w : World) (e : TypeId) : ∀ (xs : List Value) (done rest : List Value), rest.length = xs.length →
    storeAll (w.alloc (.cells (done ++ rest).toArray e)) ⟨w.heap.size, done.length, none⟩ xs = w.alloc (.cells (done ++ xs).toArray e)
  | [], done, rest, h => by
    have : rest = [] := List.eq_nil_of_length_eq_zero (by simpa using h)
    subst this; rfl
  | x :: xs, done, [], h => by simp at h
  | x :: xs, done, r :: rest, h => by
    have ih := storeAll_new w e xs (done ++ [x]) rest (by simpa using h)
    simp only [storeAll]
    have e1 : (w.alloc (.cells (done ++ r :: rest).toArray e)).setCell ⟨w.heap.size, done.length, none⟩ x = w.alloc (.cells (done ++ [x] ++ rest).toArray e) := by
      have hm : ∀ (o o' : Obj) (f : Obj → Obj), f o = o' → (w.heap.push o).modify w.heap.size f = w.heap.push o' := by
        intro o o' f hf
        apply Array.ext_getElem?
        intro i
        rw [Array.getElem?_modify, Array.getElem?_push, Array.getElem?_push]
        by_cases hi : i = w.heap.size
        · subst hi; simp [hf]
        · rw [if_neg (by omega), if_neg hi, if_neg hi]
      show ({ w with heap := (w.heap.push (.cells (done ++ r :: rest).toArray e)).modify w.heap.size _ } : World) = { w with heap := w.heap.push (.cells (done ++ [x] ++ rest).toArray e) }
      rw [hm _ (.cells (done ++ [x] ++ rest).toArray e) _ (by simp)]
    rw [e1, addr_add_eq]
    have e2 : (done ++ [x]).length = done.length + 1 := by simp
    rw [← e2, ih]
    simp
theorem canAll_new (w : World) (e : TypeId) (cs : Array Value) : ∀ (xs : List Value) (i : Nat), i + xs.length ≤ cs.size → canAll (w.alloc (.cells cs e)) ⟨w.heap.size, i, none⟩ xs
  | [], _, _ => trivial
  | x :: xs, i, h => by
    simp only [List.length_cons] at h
    refine ⟨?_, (Blk.new w cs e).frozen i, ?_⟩
    · rw [(Blk.new w cs e).cell i]
      exact ⟨_, Array.getElem?_eq_getElem (by omega)⟩
    · rw [addr_add_eq]; exact canAll_new w e cs xs (i + 1) (by omega)
theorem vStore_new {P : Program} {w : World} {K : Value → World → Prop} {t e : TypeId} {z cs : Array Value} {s : Nat} (hs : cs.size = s) (hz : z.size = s) (h1 : ∀ u ∈ cs.toList, u.oneCell' = true) (hk : K undef (w.alloc (.cells cs e))) :
    vStoreD P t (some s) (.pointer (some ⟨w.heap.size, 0, none⟩)) (.agg cs) K (w.alloc (.cells z e)) := by
  refine ⟨hs, h1, canAll_new w e z cs.toList 0 (by simp; omega), ?_⟩
  have := storeAll_new w e cs.toList [] z.toList (by simp; omega)
  simp only [List.nil_append, List.length_nil] at this
  show K undef (storeAll (w.alloc (.cells z e)) ⟨w.heap.size, 0, none⟩ cs.toList)
  have e1 : z.toList.toArray = z := by simp
  have e2 : cs.toList.toArray = cs := by simp
  rw [e1, e2] at this
  rw [this]; exact hk
section
variable {P : Program} {w : World} {Ns : NS} {rs : List Nat} {σ : Env} {ty : TypeId} {Kv : Value → Prop} {Kn : (Value → World → Prop) → Prop}
theorem nR_move {t : Nat} {V : Value → World → Prop} (ht : t ∈ rs) (hf : findN t Ns = some V) (hV : Stb w V) (hk : Kn V) : nR P (.move (.tmp t)) ty rs Ns σ w Kv Kn :=
  .inr ⟨V, hV, fun σ' _ _ hp => nUp_pure (v := σ' t) rfl (psis_V hp ht hf), hk⟩
end
end Go.Vc
end
section
namespace Go.Vc
open Go.RowKit
theorem chg_putObj (w : World) {L : Nat} {ks : List Nat} (h : L ∈ ks) (o : Obj) : Chg w (w.putObj L o) ks :=
  ⟨rfl, rfl, rfl, by simp [World.putObj], fun k _ hn => World.putObj_heap_other fun e => hn (e ▸ h)⟩
theorem later_two (w : World) (o o' : Obj) : Later w ((w.alloc o).alloc o') := (later_alloc w o).alloc o'
theorem heap_later {w w' : World} {k : Nat} {o : Obj} (h : w.heap[k]? = some o) (hl : Later w w') : w'.heap[k]? = some o := by
  rw [hl.block k (Array.getElem?_eq_some_iff.1 h).1]; exact h
theorem heap_chg {w w' : World} {k : Nat} {o : Obj} {ks : List Nat} (h : w.heap[k]? = some o) (g : Chg w w' ks) (hk : k ∉ ks) : w'.heap[k]? = some o := by
  rw [g.block k (Array.getElem?_eq_some_iff.1 h).1 hk]; exact h
end Go.Vc
end
section
namespace Go.Vc
open Go.RowKit
theorem vAppend_at {P : Program} {w : World} {K : Value → World → Prop} {t e ty : TypeId} {z : Value} {s b : Nat} (ht : P.underlying t = some (.slice e)) (hi : (P.info? e).map (fun i => (i.zero, i.size, i.bytes)) = some (some z, s, b)) (hzs : z.cells.size = s) (hsz : 0 < s)
    {base : Nat} {v x : Value} {n m : Nat} {xs news : List Value} (hown : w.ownsRow base e s v n xs) (hx : SlN w s x m news) (h1 : ∀ u ∈ news, u.oneCell' = true) (h63 : n + m ≤ maxLen) (hb : (n + m) * b ≤ 140737488355328) (hbase : base ≤ w.heap.size)
    (hK : ∀ v' w', w'.ownsRow base e s v' (n + m) (xs ++ news) → w.grownBy w' v.ownBlock → (v'.ownBlock = v.ownBlock ∨ v'.ownBlock = some w.heap.size) → K v' w') : vAppend P #[t, t] ty #[v, x] K w := by
  obtain ⟨i, hi1, hz, hsi, hbi⟩ := info_parts hi
  unfold vAppend
  obtain ⟨hl, hr⟩ := hx
  rcases hr with ⟨rfl, rfl⟩ | ⟨ad, c, rfl, hc1, hc2, hc3⟩
  · have hnews : news = [] := List.eq_nil_of_length_eq_zero (by simpa using hl)
    subst hnews
    have hsl := SlN.of_own hown
    obtain ⟨o, c, rfl, h1, h2, h3, h4, _⟩ := hsl.open
    rw [run_val_pure (run_append_nil_src ht hi o n c h1 (fun ho => (h4 ho).1))]
    exact hK _ _ (by simpa using hown) ⟨rfl, rfl, rfl, Nat.le_refl _, fun _ _ _ => rfl⟩ (.inl rfl)
  · obtain ⟨v', w', hr, h2, h3, h4, h5⟩ := run_append_own_at (P := P) w base t ty e i z s b ht hi1 hz hsi hbi hzs hsz v n xs hown ad m c news hl hc3 h1 h63 hb hbase
    rw [run_val_pure hr]
    exact hK _ _ h2 h3 h5
end Go.Vc
end
section
namespace Go.Vc
open Go.RowKit
theorem own_chg_ty {w w' : World} {base s n k : Nat} {e e' : TypeId} {cs : Array Value} {v : Value} {xs : List Value} (h : w.ownsRow base e s v n xs) (hb : Blk w k cs e') (hne : e ≠ e') (g : Chg w w' [k]) : w'.ownsRow base e s v n xs := by
  obtain ⟨h0, h⟩ := h
  refine ⟨h0, ?_⟩
  rcases h with h | ⟨b, cap, cur, hv, hbb, hh, h3⟩
  · exact .inl h
  · refine .inr ⟨b, cap, cur, hv, hbb, ?_, h3⟩
    rw [g.block b (Blk.lt hh) ?_]
    · exact hh
    · intro hm
      simp only [List.mem_singleton] at hm
      subst hm
      unfold Blk at hb
      rw [hh] at hb
      simp only [Option.some.injEq, Obj.cells.injEq] at hb
      exact hne hb.2.1
theorem own_obj {w w' : World} {base s n k : Nat} {e : TypeId} {o : Obj} {v : Value} {xs : List Value} (h : w.ownsRow base e s v n xs) (hb : w.heap[k]? = some o) (ho : o.isCells = false) (g : Chg w w' [k]) : w'.ownsRow base e s v n xs := by
  obtain ⟨h0, h⟩ := h
  refine ⟨h0, ?_⟩
  rcases h with h | ⟨b, cap, cur, hv, hbb, hh, h3⟩
  · exact .inl h
  · refine .inr ⟨b, cap, cur, hv, hbb, ?_, h3⟩
    rw [g.block b (Blk.lt hh) ?_]
    · exact hh
    · intro hm
      simp only [List.mem_singleton] at hm
      subst hm
      rw [hh] at hb
      simp only [Option.some.injEq] at hb
      subst hb
      simp [Obj.isCells] at ho
theorem own_ne {w : World} {base s n k : Nat} {e : TypeId} {o : Obj} {v : Value} {xs : List Value} (h : w.ownsRow base e s v n xs) (hk : w.heap[k]? = some o) (ho : ∀ cs, o ≠ .cells cs e (0, 0)) : v.ownBlock ≠ some k := by
  obtain ⟨h0, h⟩ := h
  rcases h with ⟨rfl, _⟩ | ⟨b, cap, cur, rfl, _, hh, _⟩
  · simp [Value.ownBlock]
  · simp only [Value.ownBlock]
    intro he
    simp only [Option.some.injEq] at he
    subst he
    rw [hh] at hk
    simp only [Option.some.injEq] at hk
    exact ho cur hk.symm
theorem not_cells {o : Obj} (h : o.isCells = false) (e : TypeId) : ∀ cs, o ≠ .cells cs e (0, 0) := by
  intro cs e'
  subst e'
  simp [Obj.isCells] at h
theorem grown_obj {w w' : World} {base s n k : Nat} {e : TypeId} {o : Obj} {v : Value} {xs : List Value} (h : w.ownsRow base e s v n xs) (g : w.grownBy w' v.ownBlock) (hk : w.heap[k]? = some o) (ho : ∀ cs, o ≠ .cells cs e (0, 0)) : w'.heap[k]? = some o := by
  rw [g.block k (Array.getElem?_eq_some_iff.1 hk).1 (fun e => own_ne h hk ho e.symm)]; exact hk
end Go.Vc
end
section
namespace Go.Stab
structure Swo {α : Type} (lt : α → α → Bool) : Prop where
  asym : ∀ a b, lt a b = true → lt b a = false
  ntr : ∀ a b c, lt b a = false → lt c b = false → lt c a = false
variable {α : Type} {lt : α → α → Bool}
theorem Swo.irr (h : Swo lt) (a : α) : lt a a = false := by
  cases e : lt a a with
  | false => rfl
  | true => have := h.asym a a e; rw [e] at this; exact this
theorem Swo.lt_le (h : Swo lt) {a b c : α} (h1 : lt a b = true) (h2 : lt c b = false) : lt a c = true := by
  cases e : lt a c with
  | true => rfl
  | false => have := h.ntr b c a h2 e; rw [h1] at this; exact this.symm
theorem Swo.le_lt (h : Swo lt) {a b c : α} (h1 : lt b a = false) (h2 : lt b c = true) : lt a c = true := by
  cases e : lt a c with
  | true => rfl
  | false => have := h.ntr c a b e h1; rw [h2] at this; exact this.symm
def Srt (lt : α → α → Bool) (l : List α) : Prop := l.Pairwise fun a b => lt b a = false
def eqv (lt : α → α → Bool) (a b : α) : Bool := !lt a b && !lt b a
def Stb (lt : α → α → Bool) (l l' : List α) : Prop := l'.length = l.length ∧ ∀ x, l'.filter (eqv lt x) = l.filter (eqv lt x)
theorem Stb.refl (l : List α) : Stb lt l l := ⟨rfl, fun _ => rfl⟩
theorem Stb.trans {a b c : List α} (h : Stb lt a b) (g : Stb lt b c) : Stb lt a c := ⟨by rw [g.1, h.1], fun x => by rw [g.2, h.2]⟩
theorem Stb.append {a b a' b' : List α} (h : Stb lt a a') (g : Stb lt b b') : Stb lt (a ++ b) (a' ++ b') := ⟨by simp [h.1, g.1], fun x => by rw [List.filter_append, List.filter_append, h.2, g.2]⟩
theorem Stb.mem (hs : Swo lt) {a b : List α} (h : Stb lt a b) (x : α) : x ∈ b ↔ x ∈ a := by
  have e := h.2 x
  have hx : eqv lt x x = true := by simp [eqv, hs.irr]
  constructor
  · intro hm
    have : x ∈ b.filter (eqv lt x) := List.mem_filter.2 ⟨hm, hx⟩
    rw [e] at this
    exact (List.mem_filter.1 this).1
  · intro hm
    have : x ∈ a.filter (eqv lt x) := List.mem_filter.2 ⟨hm, hx⟩
    rw [← e] at this
    exact (List.mem_filter.1 this).1
theorem Stb.swap (hs : Swo lt) {u v : List α} (h : ∀ a ∈ u, ∀ b ∈ v, lt b a = true) : Stb lt (u ++ v) (v ++ u) := by
  refine ⟨by simp; omega, fun x => ?_⟩
  rw [List.filter_append, List.filter_append]
  by_cases hu : u.filter (eqv lt x) = []
  · simp [hu]
  · have hv : v.filter (eqv lt x) = [] := by
      obtain ⟨a, ha⟩ := List.exists_mem_of_ne_nil _ hu
      obtain ⟨ha, hxa⟩ := List.mem_filter.1 ha
      rw [List.filter_eq_nil_iff]
      intro b hb hxb
      have hba := h a ha b hb
      simp only [eqv, Bool.and_eq_true, Bool.not_eq_true'] at hxa hxb
      have := hs.ntr a x b hxa.1 hxb.2
      rw [hba] at this
      cases this
    simp [hv]
theorem one_way (hs : Swo lt) {l l' : List α} (h : Srt lt l) (h' : Srt lt l') (g : ∀ x, l'.filter (eqv lt x) = l.filter (eqv lt x)) : l' = l := by
  induction l generalizing l' with
  | nil =>
    cases l' with
    | nil => rfl
    | cons b t' =>
      have := g b
      rw [List.filter_cons_of_pos (by simp [eqv, hs.irr])] at this
      cases this
  | cons a t ih =>
    have haa : eqv lt a a = true := by simp [eqv, hs.irr]
    cases l' with
    | nil =>
      have := g a
      rw [List.filter_cons_of_pos haa] at this
      cases this
    | cons b t' =>
      have hbb : eqv lt b b = true := by simp [eqv, hs.irr]
      have ha : a ∈ b :: t' := by
        have : a ∈ (b :: t').filter (eqv lt a) := by rw [g a]; exact List.mem_filter.2 ⟨by simp, haa⟩
        exact (List.mem_filter.1 this).1
      have hb : b ∈ a :: t := by
        have : b ∈ (a :: t).filter (eqv lt b) := by rw [← g b]; exact List.mem_filter.2 ⟨by simp, hbb⟩
        exact (List.mem_filter.1 this).1
      obtain ⟨s1, s2⟩ := List.pairwise_cons.1 h
      obtain ⟨s1', s2'⟩ := List.pairwise_cons.1 h'
      have hab : lt a b = false := by
        rcases List.mem_cons.1 ha with e | ha
        · rw [e]; exact hs.irr b
        · exact s1' a ha
      have hba : lt b a = false := by
        rcases List.mem_cons.1 hb with e | hb
        · rw [e]; exact hs.irr a
        · exact s1 b hb
      have he : eqv lt a b = true := by simp [eqv, hab, hba]
      have g1 := g a
      rw [List.filter_cons_of_pos he, List.filter_cons_of_pos haa] at g1
      obtain rfl := (List.cons.inj g1).1
      rw [ih s2 s2' fun x => by
        have := g x
        by_cases hx : eqv lt x b = true
        · rw [List.filter_cons_of_pos hx, List.filter_cons_of_pos hx] at this
          exact (List.cons.inj this).2
        · rw [List.filter_cons_of_neg hx, List.filter_cons_of_neg hx] at this
          exact this]
def sw [Inhabited α] (l : List α) (i j : Nat) : List α := (l.set i l[j]!).set j l[i]!
theorem get_app [Inhabited α] (A : List α) (p : α) (B : List α) : (A ++ p :: B)[A.length]! = p := by simp
theorem set_app (A : List α) (p q : α) (B : List α) : (A ++ p :: B).set A.length q = A ++ q :: B := by simp
theorem sw_app [Inhabited α] (A M B : List α) (p q : α) : sw (A ++ p :: (M ++ q :: B)) A.length (A.length + 1 + M.length) = A ++ q :: (M ++ p :: B) := by
  have e : A ++ p :: (M ++ q :: B) = (A ++ p :: M) ++ q :: B := by simp
  have hl : (A ++ p :: M).length = A.length + 1 + M.length := by simp; omega
  unfold sw
  rw [get_app, e, ← hl, get_app, ← e, set_app]
  have e2 : A ++ q :: (M ++ q :: B) = (A ++ q :: M) ++ q :: B := by simp
  have hl2 : (A ++ q :: M).length = (A ++ p :: M).length := by simp
  rw [e2, ← hl2, set_app]
  simp
theorem sw_comm [Inhabited α] (l : List α) (i j : Nat) (hi : i < l.length) (hj : j < l.length) : sw l i j = sw l j i := by
  unfold sw
  by_cases h : i = j
  · subst h; rfl
  · exact List.set_comm _ _ (by omega)
theorem sw_len [Inhabited α] (l : List α) (i j : Nat) : (sw l i j).length = l.length := by simp [sw]
def swps [Inhabited α] (l : List α) (a b : Nat) : Nat → List α
  | 0 => l
  | n + 1 => sw (swps l a b n) (a + n) (b + n)
theorem swps_len [Inhabited α] (l : List α) (a b n : Nat) : (swps l a b n).length = l.length := by
  induction n with
  | zero => rfl
  | succ n ih => rw [swps, sw_len, ih]
theorem swps_app [Inhabited α] : ∀ (n : Nat) (A P M Q B : List α), P.length = n → Q.length = n →
    swps (A ++ P ++ M ++ Q ++ B) A.length (A.length + n + M.length) n = A ++ Q ++ M ++ P ++ B := by
  intro n
  induction n with
  | zero =>
    intro A P M Q B hp hq
    obtain rfl := List.length_eq_zero_iff.1 hp
    obtain rfl := List.length_eq_zero_iff.1 hq
    simp [swps]
  | succ n ih =>
    intro A P M Q B hp hq
    obtain ⟨P', p, rfl⟩ : ∃ P' p, P = P' ++ [p] := ⟨P.dropLast, P.getLast (by intro h; rw [h] at hp; simp at hp), (List.dropLast_concat_getLast _).symm⟩
    obtain ⟨Q', q, rfl⟩ : ∃ Q' q, Q = Q' ++ [q] := ⟨Q.dropLast, Q.getLast (by intro h; rw [h] at hq; simp at hq), (List.dropLast_concat_getLast _).symm⟩
    simp only [List.length_append, List.length_cons, List.length_nil] at hp hq
    have h := ih A P' (p :: M) Q' (q :: B) (by omega) (by omega)
    have e1 : A ++ (P' ++ [p]) ++ M ++ (Q' ++ [q]) ++ B = A ++ P' ++ (p :: M) ++ Q' ++ (q :: B) := by simp
    have e2 : A.length + (n + 1) + M.length = A.length + n + (p :: M).length := by simp; omega
    rw [swps, e1, e2, h]
    have e3 : A ++ Q' ++ (p :: M) ++ P' ++ (q :: B) = (A ++ Q') ++ p :: ((M ++ P') ++ q :: B) := by simp
    have e4 : A.length + n = (A ++ Q').length := by simp; omega
    have e5 : A.length + n + (p :: M).length + n = (A ++ Q').length + 1 + (M ++ P').length := by simp; omega
    rw [e3, e5, e4, sw_app]
    simp
theorem Srt.append {a b : List α} : Srt lt (a ++ b) ↔ Srt lt a ∧ Srt lt b ∧ ∀ x ∈ a, ∀ y ∈ b, lt y x = false := List.pairwise_append
theorem ins_srt (hs : Swo lt) {S1 S2 : List α} {e : α} (h : Srt lt (S1 ++ S2)) (h1 : S1 = [] ∨ ∃ T p, S1 = T ++ [p] ∧ lt e p = false) (h2 : ∀ s ∈ S2, lt e s = true) : Srt lt (S1 ++ e :: S2) := by
  obtain ⟨g1, g2, g3⟩ := Srt.append.1 h
  refine Srt.append.2 ⟨g1, List.pairwise_cons.2 ⟨fun s hs' => hs.asym _ _ (h2 s hs'), g2⟩, ?_⟩
  intro x hx y hy
  rcases List.mem_cons.1 hy with rfl | hy
  · rcases h1 with rfl | ⟨T, p, rfl, hp⟩
    · cases hx
    · rcases List.mem_append.1 hx with hx' | hx'
      · obtain ⟨_, _, k3⟩ := Srt.append.1 g1
        exact hs.ntr x p y (k3 x hx' p (by simp)) hp
      · obtain rfl := List.mem_singleton.1 hx'
        exact hp
  · exact g3 x hx y hy
theorem ins_stb (hs : Swo lt) {S1 S2 : List α} {e : α} (h2 : ∀ s ∈ S2, lt e s = true) : Stb lt (S1 ++ S2 ++ [e]) (S1 ++ e :: S2) := by
  have := Stb.swap hs (u := S2) (v := [e]) (fun a ha b hb => by rw [List.mem_singleton.1 hb]; exact h2 a ha)
  have h := (Stb.refl (lt := lt) S1).append this
  simpa using h
theorem front_srt (hs : Swo lt) {e : α} {V1 V2 : List α} (h : Srt lt (V1 ++ V2)) (h1 : ∀ s ∈ V1, lt s e = true) (h2 : V2 = [] ∨ ∃ p T, V2 = p :: T ∧ lt p e = false) : Srt lt (V1 ++ e :: V2) := by
  obtain ⟨g1, g2, g3⟩ := Srt.append.1 h
  refine Srt.append.2 ⟨g1, List.pairwise_cons.2 ⟨?_, g2⟩, ?_⟩
  · intro s hs'
    rcases h2 with rfl | ⟨p, T, rfl, hp⟩
    · cases hs'
    · rcases List.mem_cons.1 hs' with rfl | h'
      · exact hp
      · exact hs.ntr e p s hp ((List.pairwise_cons.1 g2).1 s h')
  · intro x hx y hy
    rcases List.mem_cons.1 hy with rfl | hy
    · exact hs.asym _ _ (h1 x hx)
    · exact g3 x hx y hy
theorem front_stb (hs : Swo lt) {e : α} {V1 V2 : List α} (h1 : ∀ s ∈ V1, lt s e = true) : Stb lt (e :: (V1 ++ V2)) (V1 ++ e :: V2) := by
  have := Stb.swap hs (u := [e]) (v := V1) (fun a ha b hb => by rw [List.mem_singleton.1 ha]; exact h1 b hb)
  have h := this.append (Stb.refl (lt := lt) V2)
  simpa using h
theorem halves (hs : Swo lt) {A0 u v B0 L R : List α} (hX : Srt lt (A0 ++ u)) (hY : Srt lt (v ++ B0)) (huv : ∀ a ∈ u, ∀ b ∈ v, lt b a = true)
    (hAB : ∀ x ∈ A0, ∀ y ∈ B0, lt y x = false) (hL : Stb lt (A0 ++ v) L) (hR : Stb lt (u ++ B0) R) (sL : Srt lt L) (sR : Srt lt R) :
    Srt lt (L ++ R) ∧ Stb lt (A0 ++ u ++ (v ++ B0)) (L ++ R) := by
  obtain ⟨_, _, x3⟩ := Srt.append.1 hX
  obtain ⟨_, _, y3⟩ := Srt.append.1 hY
  constructor
  · refine Srt.append.2 ⟨sL, sR, fun x hx y hy => ?_⟩
    rcases List.mem_append.1 ((hL.mem hs x).1 hx) with hx | hx <;> rcases List.mem_append.1 ((hR.mem hs y).1 hy) with hy | hy
    · exact x3 x hx y hy
    · exact hAB x hx y hy
    · exact hs.asym _ _ (huv y hy x hx)
    · exact y3 x hx y hy
  · have h1 : Stb lt (A0 ++ u ++ (v ++ B0)) ((A0 ++ v) ++ (u ++ B0)) := by
      have := ((Stb.refl (lt := lt) A0).append (Stb.swap hs huv)).append (Stb.refl (lt := lt) B0)
      simpa using this
    exact h1.trans (hL.append hR)
theorem rot_gt [Inhabited α] {X P Q Y : List α} (h : Q.length < P.length) : ∃ P1 P2, P = P1 ++ P2 ∧ P1.length = Q.length ∧ P2.length = P.length - Q.length ∧
    swps (X ++ P ++ Q ++ Y) X.length (X.length + P.length) Q.length = X ++ Q ++ P2 ++ P1 ++ Y := by
  refine ⟨P.take Q.length, P.drop Q.length, (List.take_append_drop _ _).symm, by simp; omega, by simp, ?_⟩
  have := swps_app Q.length X (P.take Q.length) (P.drop Q.length) Q Y (by simp; omega) rfl
  have e : X.length + Q.length + (P.drop Q.length).length = X.length + P.length := by simp; omega
  rw [e] at this
  rw [← this]
  congr 1
  rw [List.append_assoc X (P.take Q.length), List.take_append_drop]
theorem rot_lt [Inhabited α] {X P Q Y : List α} (h : P.length < Q.length) : ∃ Q1 Q2, Q = Q1 ++ Q2 ∧ Q2.length = P.length ∧ Q1.length = Q.length - P.length ∧
    swps (X ++ P ++ Q ++ Y) X.length (X.length + Q.length) P.length = X ++ Q2 ++ Q1 ++ P ++ Y := by
  refine ⟨Q.take (Q.length - P.length), Q.drop (Q.length - P.length), (List.take_append_drop _ _).symm, by simp; omega, by simp, ?_⟩
  have := swps_app P.length X P (Q.take (Q.length - P.length)) (Q.drop (Q.length - P.length)) Y rfl (by simp; omega)
  have e : X.length + P.length + (Q.take (Q.length - P.length)).length = X.length + Q.length := by simp; omega
  rw [e] at this
  rw [← this]
  congr 1
  simp
theorem rot_eq [Inhabited α] {X P Q Y : List α} (h : P.length = Q.length) : swps (X ++ P ++ Q ++ Y) X.length (X.length + P.length) P.length = X ++ Q ++ P ++ Y := by
  have := swps_app P.length X P [] Q Y rfl h.symm
  simpa using this
def s0 (a m b : Nat) : Nat := if (a + b) / 2 < m then (a + b) / 2 + m - b else a
def r0 (a m b : Nat) : Nat := if (a + b) / 2 < m then (a + b) / 2 else m
theorem sym_in {a m b : Nat} (h1 : a < m) (h2 : m < b) : a ≤ s0 a m b ∧ s0 a m b ≤ r0 a m b ∧ r0 a m b ≤ m ∧ r0 a m b ≤ (a + b) / 2 ∧ (∀ c, s0 a m b ≤ c → c < r0 a m b → m ≤ (a + b) / 2 + m - 1 - c ∧ (a + b) / 2 + m - 1 - c < b) ∧ (a + b) / 2 + m - s0 a m b ≤ b := by
  unfold s0 r0
  split
  · refine ⟨by omega, by omega, by omega, by omega, fun c => by omega, by omega⟩
  · refine ⟨by omega, by omega, by omega, by omega, fun c => by omega, by omega⟩
theorem srt_get [Inhabited α] (hs : Swo lt) {l : List α} (h : Srt lt l) {i j : Nat} (hij : i ≤ j) (hj : j < l.length) : lt l[j]! l[i]! = false := by
  have hi : i < l.length := by omega
  rw [getElem!_pos l j hj, getElem!_pos l i hi]
  rcases Nat.lt_or_ge i j with h' | h'
  · exact List.pairwise_iff_getElem.1 h i j hi hj h'
  · obtain rfl : i = j := by omega
    exact hs.irr _
theorem mem_at [Inhabited α] {l : List α} {x : α} (h : x ∈ l) : ∃ i, i < l.length ∧ l[i]! = x := by
  obtain ⟨i, hi, e⟩ := List.getElem_of_mem h
  exact ⟨i, hi, by rw [getElem!_pos l i hi, e]⟩
theorem app_l [Inhabited α] {X Y : List α} {i : Nat} (h : i < X.length) : (X ++ Y)[i]! = X[i]! := by
  rw [getElem!_pos _ i (by simp; omega), getElem!_pos X i h, List.getElem_append_left h]
theorem app_r [Inhabited α] {X Y : List α} {i : Nat} (h : i < Y.length) : (X ++ Y)[X.length + i]! = Y[i]! := by
  rw [getElem!_pos _ (X.length + i) (by simp; omega), getElem!_pos Y i h, List.getElem_append_right (by omega)]
  simp
theorem sym_facts [Inhabited α] (hs : Swo lt) {X Y : List α} {a m b s : Nat} (hX : X.length = m - a) (hY : Y.length = b - m) (h1 : a < m) (h2 : m < b) (sX : Srt lt X) (sY : Srt lt Y)
    (g1 : s0 a m b ≤ s) (g2 : s ≤ r0 a m b) (k1 : s = s0 a m b ∨ lt (X ++ Y)[(a + b) / 2 + m - s - a]! (X ++ Y)[s - 1 - a]! = false) (k2 : s = r0 a m b ∨ lt (X ++ Y)[(a + b) / 2 + m - 1 - s - a]! (X ++ Y)[s - a]! = true) :
    (s = r0 a m b → lt (X ++ Y)[(a + b) / 2 + m - 1 - s - a]! (X ++ Y)[s - a]! = true ∨ s = m ∨ (a + b) / 2 + m - s = m) →
    (∀ x ∈ X.drop (s - a), ∀ y ∈ Y.take ((a + b) / 2 + m - s - m), lt y x = true) ∧ (∀ x ∈ X.take (s - a), ∀ y ∈ Y.drop ((a + b) / 2 + m - s - m), lt y x = false) := by
  intro k3
  obtain ⟨q1, q2, q3, q4, q5, q6⟩ := sym_in h1 h2
  constructor
  · intro x hx y hy
    have hne : s < m ∧ (a + b) / 2 + m - s ≠ m := by
      constructor
      · rcases Nat.lt_or_ge s m with h | h
        · exact h
        · rw [List.drop_eq_nil_of_le (by omega)] at hx; cases hx
      · intro h
        rw [h] at hy
        simp at hy
    have hlt : lt (X ++ Y)[(a + b) / 2 + m - 1 - s - a]! (X ++ Y)[s - a]! = true := by
      rcases k2 with h | h
      · rcases k3 h with h | h | h
        · exact h
        · omega
        · exact absurd h hne.2
      · exact h
    obtain ⟨i, hi, rfl⟩ := mem_at hx
    obtain ⟨j, hj, rfl⟩ := mem_at hy
    simp only [List.length_drop, List.length_take] at hi hj
    rw [app_l (i := s - a) (by omega)] at hlt
    have e1 : (a + b) / 2 + m - 1 - s - a = X.length + ((a + b) / 2 - 1 - s) := by omega
    rw [e1, app_r (by omega)] at hlt
    have ex : (X.drop (s - a))[i]! = X[s - a + i]! := by
      rw [getElem!_pos _ i (by simp; omega), getElem!_pos X (s - a + i) (by omega), List.getElem_drop]
    have ey : (Y.take ((a + b) / 2 + m - s - m))[j]! = Y[j]! := by
      rw [getElem!_pos _ j (by simp; omega), getElem!_pos Y j (by omega), List.getElem_take]
    rw [ex, ey]
    have o1 := srt_get hs sX (show s - a ≤ s - a + i by omega) (by omega)
    have o2 := srt_get hs sY (show j ≤ (a + b) / 2 - 1 - s by omega) (by omega)
    exact hs.le_lt o2 (hs.lt_le hlt o1)
  · intro x hx y hy
    obtain ⟨i, hi, rfl⟩ := mem_at hx
    obtain ⟨j, hj, rfl⟩ := mem_at hy
    simp only [List.length_drop, List.length_take] at hi hj
    have hle : lt (X ++ Y)[(a + b) / 2 + m - s - a]! (X ++ Y)[s - 1 - a]! = false := by
      rcases k1 with h | h
      · exfalso
        unfold s0 at h
        split at h <;> omega
      · exact h
    rw [app_l (i := s - 1 - a) (by omega)] at hle
    have e1 : (a + b) / 2 + m - s - a = X.length + ((a + b) / 2 - s) := by omega
    rw [e1, app_r (by omega)] at hle
    have ex : (X.take (s - a))[i]! = X[i]! := by
      rw [getElem!_pos _ i (by simp; omega), getElem!_pos X i (by omega), List.getElem_take]
    have ey : (Y.drop ((a + b) / 2 + m - s - m))[j]! = Y[(a + b) / 2 + m - s - m + j]! := by
      rw [getElem!_pos _ j (by simp; omega), getElem!_pos Y ((a + b) / 2 + m - s - m + j) (by omega), List.getElem_drop]
    rw [ex, ey]
    have o1 := srt_get hs sX (show i ≤ s - 1 - a by omega) (by omega)
    have o2 := srt_get hs sY (show (a + b) / 2 - s ≤ (a + b) / 2 + m - s - m + j by omega) (by omega)
    exact hs.ntr _ _ _ (hs.ntr _ _ _ o1 hle) o2
theorem sym_r {a m b s : Nat} (h : s = r0 a m b) : s = m ∨ (a + b) / 2 + m - s = m := by
  unfold r0 at h
  split at h <;> omega
def Bs (lt : α → α → Bool) (n : Nat) (l : List α) : Prop := ∀ k, Srt lt ((l.drop (k * n)).take n)
theorem srt_nil : Srt lt ([] : List α) := List.Pairwise.nil
theorem Bs.whole {n : Nat} {l : List α} (h : Bs lt n l) (hl : l.length ≤ n) : Srt lt l := by
  have := h 0
  simpa [List.take_of_length_le hl] using this
theorem Bs.two {n : Nat} {l : List α} (h : Bs lt n l) : Srt lt (l.take n) ∧ Srt lt ((l.drop n).take n) ∧ Bs lt n (l.drop (n + n)) := by
  refine ⟨by simpa using h 0, by simpa using h 1, fun k => ?_⟩
  have := h (k + 2)
  rw [List.drop_drop]
  have e : (n + n) + k * n = (k + 2) * n := by rw [Nat.add_mul]; omega
  rwa [e]
theorem Bs.snoc {n k : Nat} {P Z : List α} (h : Bs lt n P) (hl : P.length = k * n) (hz : Srt lt Z) (hn : Z.length ≤ n) : Bs lt n (P ++ Z) := by
  intro j
  rcases Nat.lt_or_ge j k with hj | hj
  · have h1 : (j + 1) * n ≤ k * n := Nat.mul_le_mul_right n hj
    rw [Nat.add_mul] at h1
    rw [List.drop_append_of_le_length (by omega), List.take_append_of_le_length (by simp; omega)]
    exact h j
  · rcases Nat.eq_or_lt_of_le hj with e | hj
    · rw [← e, List.drop_append, ← hl]
      simp [List.take_of_length_le hn]
      exact hz
    · have h1 : (k + 1) * n ≤ j * n := Nat.mul_le_mul_right n hj
      rw [Nat.add_mul] at h1
      rw [List.drop_eq_nil_of_le (by simp; omega), List.take_nil]
      exact srt_nil
theorem Bs.nil {n : Nat} : Bs lt n ([] : List α) := fun k => by simp [srt_nil]
end Go.Stab
end
section
namespace Go.Vc
open Go.RowKit
def i64v (n : Int) : Value := .int .i64 n
def OwnI (w : World) (B : Nat) (e : TypeId) (v : Value) (l : List Int) : Prop := w.ownsRow B e 1 v l.length (l.map i64v)
theorem OwnI.sl {w : World} {B : Nat} {e : TypeId} {v : Value} {l : List Int} (h : OwnI w B e v l) : Sl w v (l.map i64v) := Sl.of_own h
theorem OwnI.later {w w' : World} {B : Nat} {e : TypeId} {v : Value} {l : List Int} (h : OwnI w B e v l) (hl : Later w w') : OwnI w' B e v l := own_later h hl
theorem OwnI.nil (w : World) (B : Nat) (e : TypeId) : OwnI w B e (.slice none 0 0) [] := own_nil w B e 1
theorem OwnI.slice {w : World} {B : Nat} {e : TypeId} {v : Value} {l : List Int} (h : OwnI w B e v l) : ∃ o c, v = .slice o l.length c := by
  obtain ⟨o, c, hv, _⟩ := h.sl.openM
  exact ⟨o, c, hv⟩
theorem Sl.atI {w : World} {a : Addr} {l : List Int} {n c : Nat} (h : Sl w (.slice (Option.some a) n c) (l.map i64v)) {i : Nat} (hi : i < l.length) : w.cell? (a.add i) = Option.some (.int .i64 l[i]) := h.at (by simp [i64v, hi])
theorem vAppend_i {P : Program} {w : World} {K : Value → World → Prop} {t e ty : TypeId} {z : Value} {b : Nat} (ht : P.underlying t = some (.slice e)) (hi : (P.info? e).map (fun i => (i.zero, i.size, i.bytes)) = some (some z, 1, b)) (hzs : z.cells.size = 1)
    {B : Nat} {v x : Value} {l : List Int} {n : Int} (hown : OwnI w B e v l) (hx : SlN w 1 x 1 [.int .i64 n]) (h63 : l.length + 1 ≤ 1000000000) (hb : b ≤ 1000) (hbase : B ≤ w.heap.size)
    (hK : ∀ v' w', OwnI w' B e v' (l ++ [n]) → w.grownBy w' v.ownBlock → (v'.ownBlock = v.ownBlock ∨ v'.ownBlock = some w.heap.size) → (∀ w0, Later w0 w → w0.heap.size ≤ B → Later w0 w') → K v' w') : vAppend P #[t, t] ty #[v, x] K w := by
  refine vAppend_at ht hi hzs (by omega) hown hx (by simp; rfl) (by unfold maxLen; omega) ?_ hbase ?_
  · have : (l.length + 1) * b ≤ 1000000000 * 1000 := Nat.mul_le_mul h63 hb
    omega
  · intro v' w' ho hg hs
    refine hK v' w' ?_ hg hs fun w0 hl hb => hl.appended hown hb hg
    unfold OwnI
    rw [List.length_append, List.map_append]; exact ho
theorem lit_i (w : World) (n : Int) (e : TypeId) : SlN (w.alloc (.cells #[.int .i64 n] e)) 1 (.slice (some ⟨w.heap.size, 0, none⟩) 1 1) 1 [.int .i64 n] := Sl.one w _ _
end Go.Vc
end
section
namespace Go.Vc
open Go.RowKit
theorem own_setN {w : World} {base n s : Nat} {e : TypeId} {a : Addr} {c m i : Nat} {xs : List Value} (h : w.ownsRow base e s (.slice (some a) m c) n xs) (hi : i < n * s) (v : Value) :
    ∃ k, a = ⟨k, 0, none⟩ ∧ base ≤ k ∧ k < w.heap.size ∧ (w.setCell ⟨k, i, none⟩ v).ownsRow base e s (.slice (some ⟨k, 0, none⟩) m c) n (xs.set i v) ∧ (∃ y, w.cell? ⟨k, i, none⟩ = some y) ∧ w.frozen? ⟨k, i, none⟩ = false ∧ Blk w k (match w.heap[k]? with | some (.cells cs _ _) => cs | _ => #[]) e := by
  obtain ⟨h0, h⟩ := h
  rcases h with ⟨h, _⟩ | ⟨g, cap, cur, hv, hb, hh, h1, h2, h3, h4⟩
  · cases h
  · simp only [Value.slice.injEq, Option.some.injEq] at hv
    obtain ⟨rfl, rfl, rfl⟩ := hv
    have hB : Blk w g cur e := hh
    have hsz : cur.size = c * s := by simpa using h3
    have hms : m * s ≤ c * s := Nat.mul_le_mul_right _ h1
    refine ⟨g, rfl, hb, hB.lt, ⟨by simpa using h0, .inr ⟨g, c, cur.setIfInBounds i v, rfl, hb, hB.set i v, h1, h2, by simpa using h3, ?_⟩⟩, ?_, hB.frozen i, ?_⟩
    · rw [← h4]; simp [List.take_set]
    · rw [hB.cell]; exact ⟨cur[i], Array.getElem?_eq_getElem (by omega)⟩
    · rw [hh]; exact hh
theorem qX_build {P : Program} {σ : Env} {ty t : TypeId} {ps : Array (Nat × Operand)} {u : Value} {w : World} {K : Value → Prop} (h : ∀ w', vBuild P t (ps.map fun (i, x) => (i, ev σ x)) (fun v w'' => v = u ∧ w'' = w') w') (hk : K u) : qX P (.build t ps) ty σ w K := by
  refine pure_of_up (s := Instr.build t (ps.map fun (i, x) => (i, ev σ x))) (fun w' => by unfold exe; simp only [execOp]; rfl) ⟨u, fun w' => ?_, hk⟩
  have h1 := h w'
  unfold vBuild at h1
  have e : (val (Instr.build t (ps.map fun (i, x) => (i, ev σ x)))).run P w' = ((Instr.build t (ps.map fun (i, x) => (i, ev σ x))).run P w').andThen fun v w' => .ok (.value v) w' := by simp [val]
  rw [e] at h1
  cases hs : (Instr.build t (ps.map fun (i, x) => (i, ev σ x))).run P w' with
  | ok v w'' =>
    rw [hs] at h1
    obtain ⟨rfl, rfl⟩ := h1
    rfl
  | halt => rw [hs] at h1; exact h1.elim
theorem nP_build {P : Program} {σ : Env} {ty t : TypeId} {ps : Array (Nat × Operand)} (u : Value) {w : World} {Kv : Value → Prop} {Kn : (Value → World → Prop) → Prop} (h : ∀ w', vBuild P t (ps.map fun (i, x) => (i, ev σ x)) (fun v w'' => v = u ∧ w'' = w') w') (hk : Kv u) : nPlain P (.build t ps) ty σ w Kv Kn := qX_build h hk
theorem SlN.preN {w : World} {s n c : Nat} {o : Option Addr} {xs : List Value} (h : SlN w s (.slice o n c) n xs) {k : Nat} (hk : k ≤ n) : SlN w s (.slice o k c) k (xs.take (k * s)) := by
  obtain ⟨_, hc, hm, hl, _⟩ := h.len
  have hs := h.part (l := 0) (k := (k : Int)) (m := (c : Int)) (by omega) (by omega) (by omega) (by omega) (by omega)
  simp only [Int.sub_zero, Int.toNat_zero, Nat.zero_mul, List.drop_zero, Int.toNat_natCast] at hs
  unfold slAddr at hs
  split at hs
  · exact hs
  · cases o with
    | none => exact hs
    | some a => simpa [addr_add_zero] using hs
end Go.Vc
end
section
namespace Go.Vc
open Go.RowKit
section
variable {α : Type} {enc : α → List Value} {k : Nat}
def RecS (enc : α → List Value) (k : Nat) (w : World) (v : Value) (l : List α) : Prop := SlN w k v l.length (l.map enc).flatten
def OwnR (enc : α → List Value) (k : Nat) (w : World) (B : Nat) (e : TypeId) (v : Value) (l : List α) : Prop := w.ownsRow B e k v l.length (l.map enc).flatten
theorem rec_len (hk : ∀ x, (enc x).length = k) (l : List α) : ∀ r ∈ l.map enc, r.length = k := by
  intro r hr
  obtain ⟨p, _, rfl⟩ := List.mem_map.1 hr
  exact hk p
theorem rec_flat (hk : ∀ x, (enc x).length = k) (l : List α) : (l.map enc).flatten.length = l.length * k := by
  induction l with
  | nil => simp
  | cons p l ih => simp only [List.map_cons, List.flatten_cons, List.length_append, ih, List.length_cons, hk, Nat.add_mul]; omega
theorem RecS.later {w w' : World} {v : Value} {l : List α} (h : RecS enc k w v l) (hl : Later w w') : RecS enc k w' v l := SlN.later h hl
theorem OwnR.s {w : World} {B : Nat} {e : TypeId} {v : Value} {l : List α} (h : OwnR enc k w B e v l) : RecS enc k w v l := SlN.of_own h
theorem OwnR.later {w w' : World} {B : Nat} {e : TypeId} {v : Value} {l : List α} (h : OwnR enc k w B e v l) (hl : Later w w') : OwnR enc k w' B e v l := own_later h hl
theorem OwnR.base {w : World} {B B' : Nat} {e : TypeId} {v : Value} {l : List α} (h : OwnR enc k w B e v l) (hb : B' ≤ B) : OwnR enc k w B' e v l := own_base h hb
theorem OwnR.nil (w : World) (B : Nat) (e : TypeId) : OwnR enc k w B e (.slice none 0 0) [] := own_nil w B e k
theorem OwnR.lit0 (w : World) (e : TypeId) {B : Nat} (hB : B ≤ w.heap.size) : OwnR enc k (w.alloc (.cells #[] e)) B e (.slice (some ⟨w.heap.size, 0, none⟩) 0 0) [] := own_lit w [] e k 0 (by simp) (by unfold maxLen; omega) hB
theorem RecS.slice {w : World} {v : Value} {l : List α} (h : RecS enc k w v l) : ∃ o c, v = .slice o l.length c ∧ l.length ≤ c ∧ c ≤ 9223372036854775807 := by
  obtain ⟨o, c, hv, h1, h2, _⟩ := SlN.open h
  exact ⟨o, c, hv, h1, by simpa [maxLen] using h2⟩
theorem RecS.nil (w : World) : RecS enc k w (.slice none 0 0) [] := SlN.of_own (own_nil w 0 0 k)
theorem RecS.at (hk : ∀ x, (enc x).length = k) {w : World} {o : Option Addr} {n c : Nat} {l : List α} (h : RecS enc k w (.slice o n c) l) {i : Nat} (hi : i < l.length) : ∃ a, o = some a ∧ cellsAt w (a.add (i * k)) k = some (enc l[i]) := by
  cases o with
  | none => have h1 := SlN.len h; have := h1.2.2.2.2 rfl; have := h1.1; omega
  | some a =>
    have hr : (l.map enc)[i]? = some (enc l[i]) := by simp [hi]
    exact ⟨a, rfl, SlN.row h (rec_len hk l) hr⟩
theorem RecS.get (hk : ∀ x, (enc x).length = k) {w : World} {a : Addr} {n c : Nat} {l : List α} (h : RecS enc k w (.slice (some a) n c) l) {i : Nat} (hi : i < l.length) : cellsAt w (a.add (i * k)) k = some (enc l[i]) := by
  obtain ⟨a', ha, hc⟩ := RecS.at hk h hi
  cases ha
  exact hc
theorem RecS.cell (hk : ∀ x, (enc x).length = k) {w : World} {a : Addr} {n c : Nat} {l : List α} (h : RecS enc k w (.slice (some a) n c) l) {i j : Nat} (hi : i < l.length) {x : Value} (hx : (enc l[i])[j]? = some x) : w.cell? ((a.add (i * k)).add j) = some x :=
  SlN.rowCell h (rec_len hk l) (by simp [hi]) hx
theorem vAppend_rs (hk : ∀ x, (enc x).length = k) (h1 : ∀ x, ∀ u ∈ enc x, u.oneCell' = true) {P : Program} {w : World} {K : Value → World → Prop} {t e ty : TypeId} {z : Value} {b : Nat} (ht : P.underlying t = some (.slice e)) (hi : (P.info? e).map (fun i => (i.zero, i.size, i.bytes)) = some (some z, k, b)) (hzs : z.cells.size = k) (hk0 : 0 < k)
    {B : Nat} {v x : Value} {l r : List α} (hown : OwnR enc k w B e v l) (hx : RecS enc k w x r) (h63 : l.length + r.length ≤ 1000000000) (hb : b ≤ 1000) (hbase : B ≤ w.heap.size)
    (hK : ∀ v' w', OwnR enc k w' B e v' (l ++ r) → w.grownBy w' v.ownBlock → (v'.ownBlock = v.ownBlock ∨ v'.ownBlock = some w.heap.size) → K v' w') : vAppend P #[t, t] ty #[v, x] K w := by
  refine vAppend_at ht hi hzs hk0 hown hx ?_ (by unfold maxLen; omega) ?_ hbase ?_
  · intro u hu
    obtain ⟨ys, hy, hu⟩ := List.mem_flatten.1 hu
    obtain ⟨p, _, rfl⟩ := List.mem_map.1 hy
    exact h1 p u hu
  · have : (l.length + r.length) * b ≤ 1000000000 * 1000 := Nat.mul_le_mul h63 hb
    omega
  · intro v' w' ho hg hs
    refine hK v' w' ?_ hg hs
    unfold OwnR
    simpa using ho
theorem RecS.lit1 {w : World} {b : Nat} {e : TypeId} {y : α} (hk : (enc y).length = k) (h : Blk w b (enc y).toArray e) : RecS enc k w (.slice (some ⟨b, 0, none⟩) 1 1) [y] := by
  refine SlN.mk (by simp [hk]) (Nat.le_refl _) (by unfold maxLen; omega) (fun h => by cases h) ?_
  intro a ha i x hx
  simp only [Option.some.injEq] at ha
  subst ha
  rw [addr_add_eq, Nat.zero_add, h.cell]
  simpa using hx
def wrs (xs : List Value) (p : Nat) : List Value → List Value
  | [] => xs
  | v :: vs => wrs (xs.set p v) (p + 1) vs
theorem writes_app (A old B new : List Value) (h : old.length = new.length) : wrs (A ++ old ++ B) A.length new = A ++ new ++ B := by
  induction new generalizing A old with
  | nil => obtain rfl := List.length_eq_zero_iff.1 h; rfl
  | cons v vs ih =>
    cases old with
    | nil => cases h
    | cons o os =>
      have e : (A ++ o :: os ++ B).set A.length v = (A ++ [v]) ++ os ++ B := by simp
      have hl : A.length + 1 = (A ++ [v]).length := by simp
      rw [wrs, e, hl, ih (A ++ [v]) os (by simpa using h)]
      simp
theorem own_writes {w : World} {base n s : Nat} {e : TypeId} {a : Addr} {c m : Nat} {xs : List Value} (h : w.ownsRow base e s (.slice (some a) m c) n xs) : ∃ g, a = ⟨g, 0, none⟩ ∧ base ≤ g ∧ g < w.heap.size ∧ (∃ cs, Blk w g cs e) ∧ ∀ (vs : List Value) (p : Nat), p + vs.length ≤ n * s → canAll w ⟨g, p, none⟩ vs := by
  obtain ⟨h0, h⟩ := h
  rcases h with ⟨h, _⟩ | ⟨g, cap, cur, hv, hb, hh, h1, h2, h3, h4⟩
  · cases h
  · simp only [Value.slice.injEq, Option.some.injEq] at hv
    obtain ⟨rfl, rfl, rfl⟩ := hv
    have hB : Blk w g cur e := hh
    have hsz : cur.size = c * s := by simpa using h3
    have hms : m * s ≤ c * s := Nat.mul_le_mul_right _ h1
    refine ⟨g, rfl, hb, hB.lt, ⟨cur, hB⟩, fun vs => ?_⟩
    induction vs with
    | nil => intro p _; trivial
    | cons v vs ih =>
      intro p hp
      simp only [List.length_cons] at hp
      refine ⟨⟨cur[p], by rw [hB.cell]; exact Array.getElem?_eq_getElem (by omega)⟩, hB.frozen p, ?_⟩
      rw [addr_add_eq]
      exact ih (p + 1) (by omega)
theorem own_storeAll {base n s : Nat} {e : TypeId} {g c m : Nat} : ∀ (vs : List Value) (w : World) (p : Nat) (xs : List Value), w.ownsRow base e s (.slice (some ⟨g, 0, none⟩) m c) n xs → p + vs.length ≤ n * s →
    (storeAll w ⟨g, p, none⟩ vs).ownsRow base e s (.slice (some ⟨g, 0, none⟩) m c) n (wrs xs p vs) ∧ Chg w (storeAll w ⟨g, p, none⟩ vs) [g] := by
  intro vs
  induction vs with
  | nil => intro w p xs h _; exact ⟨h, Chg.refl _ _⟩
  | cons v vs ih =>
    intro w p xs h hp
    simp only [List.length_cons] at hp
    obtain ⟨k', e', _, _, h3, _, _, _⟩ := own_setN (i := p) h (by omega) v
    have eg : k' = g := by have := congrArg Addr.block e'; simpa using this.symm
    subst eg
    have := ih (w.setCell ⟨k', p, none⟩ v) (p + 1) (xs.set p v) h3 (by omega)
    unfold storeAll
    rw [addr_add_eq]
    exact ⟨this.1, (chg_setCell w (by simp) v).trans this.2⟩
theorem set_split (l : List α) {i : Nat} (hi : i < l.length) (y : α) : l = l.take i ++ l[i] :: l.drop (i + 1) ∧ l.set i y = l.take i ++ y :: l.drop (i + 1) := by
  refine ⟨?_, ?_⟩
  · rw [List.getElem_cons_drop, List.take_append_drop]
  · rw [List.set_eq_take_append_cons_drop, if_pos hi]
theorem writes_rec (hk : ∀ x, (enc x).length = k) (l : List α) {i : Nat} (hi : i < l.length) (y : α) : wrs (l.map enc).flatten (i * k) (enc y) = ((l.set i y).map enc).flatten := by
  obtain ⟨e1, e2⟩ := set_split l hi y
  have hA : ((l.take i).map enc).flatten.length = i * k := by rw [rec_flat hk, List.length_take]; congr 1; omega
  have e3 : (l.map enc).flatten = ((l.take i).map enc).flatten ++ enc l[i] ++ ((l.drop (i + 1)).map enc).flatten := by
    have : (l.map enc).flatten = ((l.take i ++ l[i] :: l.drop (i + 1)).map enc).flatten := congrArg (fun l => (l.map enc).flatten) e1
    rw [this, List.map_append, List.flatten_append, List.map_cons, List.flatten_cons, List.append_assoc]
  rw [e3, ← hA, writes_app _ _ _ _ (by rw [hk, hk]), e2]
  simp
theorem OwnR.set (hk : ∀ x, (enc x).length = k) {w : World} {B : Nat} {e : TypeId} {a : Addr} {n c : Nat} {l : List α} (h : OwnR enc k w B e (.slice (some a) n c) l) {i : Nat} (hi : i < l.length) (y : α) :
    ∃ g, a = ⟨g, 0, none⟩ ∧ B ≤ g ∧ (∃ cs, Blk w g cs e) ∧ canAll w (a.add (i * k)) (enc y) ∧ OwnR enc k (storeAll w (a.add (i * k)) (enc y)) B e (.slice (some a) n c) (l.set i y) ∧ Chg w (storeAll w (a.add (i * k)) (enc y)) [g] := by
  obtain ⟨g, rfl, h1, h2, hb, h3⟩ := own_writes h
  have hle : i * k + k ≤ l.length * k := by
    have : (i + 1) * k ≤ l.length * k := Nat.mul_le_mul_right _ hi
    rw [Nat.add_mul] at this; omega
  obtain ⟨o1, o2⟩ := own_storeAll (enc y) w (i * k) _ h (by rw [hk]; exact hle)
  refine ⟨g, rfl, h1, hb, ?_, ?_, ?_⟩
  · rw [addr_add_eq, Nat.zero_add]
    exact h3 (enc y) (i * k) (by rw [hk]; exact hle)
  · rw [addr_add_eq, Nat.zero_add]
    unfold OwnR
    rw [writes_rec hk l hi y] at o1
    simpa using o1
  · rw [addr_add_eq, Nat.zero_add]
    exact o2
end
end Go.Vc
end
section
namespace Go.Vc
open Go.RowKit Go.ChangeShapes
section
variable {H : Type} {enc : TypeId × Value → H} {P : Program} {w : World} {sp : Nat → Bool} {hd : Bool}
structure Opens (enc : TypeId × Value → H) (P : Program) (w : World) (sp : Nat → Bool) (hd : Bool) (e : TypeId) (s : Nat) (R : List Value → Prop) : Prop where
  size : P.cellsOf e = s
  reads : ∀ m cs y, DataW.trod enc P w 0 sp hd m e cs = some y → R cs
theorem rows_list {α : Type} {en : α → List Value} {Q : α → Prop} : ∀ (rows : List (List Value)), (∀ r ∈ rows, ∃ x, r = en x ∧ Q x) → ∃ l : List α, rows = l.map en ∧ ∀ x ∈ l, Q x
  | [], _ => ⟨[], rfl, by simp⟩
  | r :: rows, h => by
    obtain ⟨l, hl, hq⟩ := rows_list rows fun r' h' => h r' (by simp [h'])
    obtain ⟨x, hx, hqx⟩ := h r (by simp)
    refine ⟨x :: l, by simp [hl, hx], fun y hy => ?_⟩
    rcases List.mem_cons.1 hy with rfl | hy
    · exact hqx
    · exact hq y hy
theorem flat_one {α : Type} (f : α → Value) : ∀ l : List α, (l.map fun x => [f x]).flatten = l.map f
  | [] => rfl
  | x :: l => by simp [flat_one f l]
theorem sl_of_rec {α : Type} {f : α → Value} {w : World} {v : Value} {l : List α} (h : RecS (fun x => [f x]) 1 w v l) : Sl w v (l.map f) := by
  unfold RecS at h
  rw [flat_one] at h
  unfold Sl
  rw [List.length_map]
  exact h
end
end Go.Vc
end
section
namespace Go.Vc
open Go.RowKit Go.ChangeShapes
section
variable {H : Type} {enc : TypeId × Value → H} {P : Program} {w : World} {sp : Nat → Bool} {hd : Bool}
def Sz (P : Program) (t : TypeId) (d : DataW H) : Prop := ∀ n ∈ d.weights P t, n ≤ reachBytes
theorem mem_weightsAll {e : TypeId} {d : DataW H} {n : Nat} (hn : n ∈ d.weights P e) : ∀ {l : List (DataW H)}, d ∈ l → n ∈ DataW.weightsAll P e l
  | [], h => by cases h
  | x :: l, h => by
    simp only [DataW.weightsAll, List.mem_append]
    rcases List.mem_cons.1 h with rfl | h
    · exact .inl hn
    · exact .inr (mem_weightsAll hn h)
def OZ (M : Nat) (enc : TypeId × Value → H) (P : Program) (w : World) (sp : Nat → Bool) (hd : Bool) (e : TypeId) (R : List Value → Prop) : Prop :=
  ∀ m, m < M → ∀ cs y, DataW.trod enc P w 0 sp hd m e cs = some y → Sz P e y.1 → R cs
variable {M : Nat}
theorem OZ.mono {e : TypeId} {R R' : List Value → Prop} (h : OZ M enc P w sp hd e R) (hr : ∀ cs, R cs → R' cs) : OZ M enc P w sp hd e R' := fun m hm cs y hy hz => hr _ (h m hm cs y hy hz)
theorem oz_i64 {e : TypeId} (he : P.underlying e = some (.int .i64)) : OZ M enc P w sp hd e (fun cs => ∃ n : Int, cs = [.int .i64 n] ∧ -9223372036854775808 ≤ n ∧ n ≤ 9223372036854775807) := fun m _ cs y hy _ => by
  obtain ⟨n, rfl, _, hw⟩ := DataW.trod_int he hy
  exact ⟨n, rfl, i64_of_wf hw⟩
theorem oz_string {e : TypeId} (he : P.underlying e = some .string) : OZ M enc P w sp hd e (fun cs => ∃ s : ByteArray, cs = [.string s] ∧ s.size ≤ 140737488351232) := fun m _ cs y hy hz => by
  obtain ⟨n, rfl, h2, _⟩ := DataW.trod_string he hy
  refine ⟨n, rfl, ?_⟩
  rw [h2] at hz
  have := hz n.data.toList.length (by simp [DataW.weights])
  exact this
theorem oz_slice {α : Type} {en : α → List Value} {Q : α → Prop} {t e : TypeId} {s : Nat} (ht : P.underlying t = some (.slice e)) (hc : P.cellsOf e = s) (he : OZ M enc P w sp hd e (fun cs => ∃ x, cs = en x ∧ Q x)) :
    OZ M enc P w sp hd t (fun cs => ∃ v l, cs = [v] ∧ RecS en s w v l ∧ (∀ x ∈ l, Q x) ∧ l.length * P.bytesOf e ≤ 140737488351232) := fun m hm cs y hy hz => by
  rcases DataW.trod_slice ht hy with ⟨h0, _⟩ | ⟨a, len, cap, elems, rest, n, hmn, hv, hyx, _, hl, hmx, hlen, hel, _⟩
  · subst h0
    exact ⟨_, [], rfl, RecS.nil w, by simp, by simp⟩
  · subst hv
    rw [hc] at hel
    rw [hyx] at hz
    have hzz : ∀ n ∈ ((elems.map (·.1)).length + (rest.map (·.1)).length) * P.bytesOf e :: (DataW.weightsAll P e (elems.map (·.1)) ++ DataW.weightsAll P e (rest.map (·.1))), n ≤ reachBytes := by
      intro n hn
      refine hz n ?_
      simp only [DataW.weights, ht]
      exact hn
    have hb := hzz _ (List.mem_cons_self ..)
    have hsz : ∀ x ∈ elems, Sz P e x.1 := fun x hx n hn => hzz n (List.mem_cons_of_mem _ (List.mem_append_left _ (mem_weightsAll hn (List.mem_map_of_mem hx))))
    have step : ∀ i, i < len → ∃ r : List Value, (∀ j x, r[j]? = some x → w.cell? (a.add (i * s + j)) = some x) ∧ r.length = s ∧ ∃ x, r = en x ∧ Q x := by
      intro i hi
      have h1 := hel i hi
      rw [List.getElem?_eq_getElem (by omega), Option.bind_eq_some_iff] at h1
      obtain ⟨cs, hcs, hy⟩ := h1
      have h2 := World.cells?_some hcs
      refine ⟨cs, fun j x hx => ?_, h2.2.1, he n (by omega) _ _ hy (hsz _ (List.getElem_mem _))⟩
      have hj : j < s := by
        have := (List.getElem?_eq_some_iff.1 hx).1
        have := h2.2.1
        omega
      have h3 := h2.2.2 j hj
      rw [addr_add_add] at h3
      rw [h3]; exact hx
    obtain ⟨rows, hrl, hr⟩ := forall_rows step
    have hrs : ∀ r ∈ rows, r.length = s ∧ ∃ x, r = en x ∧ Q x := by
      intro r hr'
      obtain ⟨i, hi⟩ := List.getElem?_of_mem hr'
      exact (hr i r hi).2
    obtain ⟨l, rfl, hq⟩ := rows_list rows fun r h => (hrs r h).2
    rw [List.length_map] at hrl
    refine ⟨_, l, rfl, ?_, hq, ?_⟩
    · unfold RecS
      rw [hrl]
      have hfl : ((l.map en).flatten).length = len * s := by
        rw [List.length_flatten, ← hrl]
        clear hr hrl hq
        induction l with
        | nil => simp
        | cons r l ih =>
          simp only [List.map_cons, List.sum_cons, List.length_cons]
          rw [ih (fun r' h' => hrs r' (by simp only [List.map_cons, List.mem_cons]; exact Or.inr h')), (hrs (en r) (by simp)).1, Nat.add_mul]
          omega
      refine SlN.mk hfl hl hmx (fun h => by cases h) ?_
      intro a' ha i x hx
      simp only [Option.some.injEq] at ha
      subst ha
      obtain ⟨k, j, r, rfl, hj, hk, hx'⟩ := flatten_at (l.map en) (fun r hr' => (hrs r hr').1) i x hx
      exact (hr k r hk).1 j x hx'
    · rw [hrl, ← hlen]
      rw [List.length_map, List.length_map, Nat.add_mul] at hb
      exact Nat.le_trans (Nat.le_add_right _ _) hb
theorem oz_fields {t : TypeId} {fs : Array Field} {S m : Nat} {cs : List Value} {y : DataW H × List MemPlace} (ht : P.underlying t = some (.struct fs)) (hc : P.cellsOf t = S) (hy : DataW.trod enc P w 0 sp hd m t cs = some y) (hz : Sz P t y.1) :
    cs.length = S ∧ ∀ (i : Nat) (f : Field) (s : Nat) (R : List Value → Prop), fs[i]? = some f → P.cellsOf f.type = s → OZ m enc P w sp hd f.type R → R ((cs.drop f.offset).take s) := by
  obtain ⟨xs, n, rfl, hyx, hl, hxl, hf⟩ := DataW.trod_struct ht hy
  rw [hc] at hl
  refine ⟨hl, fun i f s R hi hs ho => ?_⟩
  have h1 := hf i f hi
  rw [hs] at h1
  have hlt : i < xs.length := by
    rw [hxl]
    exact (Array.getElem?_eq_some_iff.1 hi).1
  rw [List.getElem?_eq_getElem hlt] at h1
  refine ho n (by omega) _ _ h1 fun k hk => hz k ?_
  rw [hyx]
  simp only [DataW.weights, ht]
  exact DataW.weights_mem_each (j := i) (by simp [hi]) (by simp [hlt]) k hk
theorem oz_struct {t : TypeId} {fs : Array Field} {S : Nat} (ht : P.underlying t = some (.struct fs)) (hc : P.cellsOf t = S) :
    OZ M enc P w sp hd t (fun cs => cs.length = S ∧ ∀ (i : Nat) (f : Field) (s : Nat) (R : List Value → Prop), fs[i]? = some f → P.cellsOf f.type = s → (∀ M, OZ M enc P w sp hd f.type R) → R ((cs.drop f.offset).take s)) := fun m _ cs y hy hz => by
  obtain ⟨h1, h2⟩ := oz_fields ht hc hy hz
  exact ⟨h1, fun i f s R hi hs ho => h2 i f s R hi hs (ho m)⟩
theorem openZ_agg {t : TypeId} {v : Value} {d : DataW H} {ps : List MemPlace} {r : Reach} {b0 : Nat} {R : List Value → Prop} (hu : ∃ fs, P.underlying t = some (.struct fs)) (ho : ∀ M, OZ M enc P w sp hd t R)
    (hval : Value.okWide P w r b0 t v) (h : DataW.Trod enc P w 0 sp hd t v d ps) (hz : Sz P t d) : ∃ cs : List Value, v = .agg cs.toArray ∧ R cs := by
  obtain ⟨fuel, h⟩ := h
  have hv : ∃ cs, v = .agg cs := by
    obtain ⟨fs, ht⟩ := hu
    simp only [Value.okWide, ht] at hval
    exact ⟨_, hval.choose_spec.1⟩
  obtain ⟨cs, rfl⟩ := hv
  exact ⟨cs.toList, by simp, ho (fuel + 1) fuel (by omega) _ _ h hz⟩
theorem openZ_sl {t e : TypeId} {v : Value} {d : DataW H} {ps : List MemPlace} {r : Reach} {b0 : Nat} {R : List Value → Prop} (ht : P.underlying t = some (.slice e)) (ho : ∀ M, OZ M enc P w sp hd t R)
    (hval : Value.okWide P w r b0 t v) (h : DataW.Trod enc P w 0 sp hd t v d ps) (hz : Sz P t d) : R [v] := by
  obtain ⟨fuel, h⟩ := h
  rw [slice_cells ht hval] at h
  exact ho (fuel + 1) fuel (by omega) _ _ h hz
end
theorem lifted_laterZ {C : Checked} {os : Os} {H : Type} {enc : TypeId × Value → H} {fid : FuncId} {f : Func} {s : ChangeSpec} {conds : List PathCond} {apart fresh handsOn again : Bool} {tb : TypeId}
    (own : ownKnob C.prog.godebug = none) (started : os.Started) (noInit : C.prog.inits.idxOf? fid = none) (hf : C.prog.funcs[fid]? = some f) (hb : HasBody C.prog fid)
    (witness : ∃ (w : World) (tape : Tape) (i : Input), w.os = os ∧ (w.forCall tape i).Shaped C.prog ∧ i.vars = [] ∧ Input.okWide C.prog (w.forCall tape i) .any w.heap.size fid i ∧
      s.pre6 enc C.prog f conds apart (w.forCall tape i).memory i.args ∧ ({} : Assume).holds C.prog (lone (Frame.enter C.prog fid i.args .normal) [] (w.forCall tape i)))
    (hl : laidOutB C.prog = true) (hts : ∀ t ∈ f.params.toList, C.prog.readableRec t = true ∧ t < C.prog.types.size) (hr : f.resultTypes = #[tb]) (htb : C.prog.underlying tb = some .bool)
    (hv : s.vars = []) (hfn : ∀ ds : List (DataW H), ds.length = f.params.toList.length → s.fn H ds = { results := [.lit (.bool true)], args := ds })
    (walk : ∀ (W : World) (base : Nat) (args : Array Value) (ds : List (DataW H)) (p : List MemPlace), (∀ (j : Nat) t v, f.params[j]? = some t → args[j]? = some v → Value.okWide C.prog W .any base t v) →
      (∀ (j : Nat) t d, f.params.toList[j]? = some t → ds[j]? = some d → Sz C.prog t d) →
      DataW.TrodAll enc C.prog W 0 (fun _ => true) true f.params.toList args.toList ds p → FnC C.prog fid args W fun v w' => v = .bool true ∧ Later W w') :
    ReturnsInHanded {} C os fid .any (s.pre6 enc C.prog f conds apart) (s.post enc C.prog f apart fresh handsOn again) := by
  refine returnsInHanded_of_change_shaped own started noInit hf witness ?_
  intro W base args ds gs before hval hW _ hwt _ _
  have hW' := hW
  obtain ⟨p, q, hA, hV, rfl, hfz, hnd⟩ := hW
  have hz : ∀ (j : Nat) t d, f.params.toList[j]? = some t → ds[j]? = some d → Sz C.prog t d := by
    intro j t d hj hd n hn
    have h1 := (List.getElem?_eq_some_iff.1 hj).1
    have h2 := (List.getElem?_eq_some_iff.1 hd).1
    have := List.all_eq_true.1 hwt n (DataW.weights_mem_each (j := j) (by rw [List.getElem?_append_left h1]; exact hj) (by rw [List.getElem?_append_left h2]; exact hd) n hn)
    simpa using this
  have hw := walk W base args ds p hval hz hA
  unfold FnC at hw
  rw [hb args W] at hw
  have hw : Ret C.prog fid args W fun v w' => v = .bool true ∧ Later W w' := hw
  refine hw.mono fun e w' ⟨v, he, hv', hlat⟩ => ?_
  subst hv'
  exact ⟨_, he, post_later hl hts hr htb hv (hfn ds (trodAll_ps_len hA).2) hW' hlat⟩
end Go.Vc
end
section
namespace Go.Vc
open Go.RowKit Go.ChangeShapes
inductive FT where
  | mk (op : Int) (dim value : ByteArray) (kv : Value) (kids : List FT)
def FT.op : FT → Int | .mk op _ _ _ _ => op
def FT.dim : FT → ByteArray | .mk _ d _ _ _ => d
def FT.value : FT → ByteArray | .mk _ _ v _ _ => v
def FT.kv : FT → Value | .mk _ _ _ kv _ => kv
def FT.kids : FT → List FT | .mk _ _ _ _ l => l
def ftC (f : FT) : List Value := [.int .i64 f.op, .string f.dim, .string f.value, f.kv]
theorem ftC_len (f : FT) : (ftC f).length = 4 := rfl
mutual
def FT.Ok (w : World) : FT → Prop
  | .mk op d v kv l => (-9223372036854775808 ≤ op ∧ op ≤ 9223372036854775807) ∧ d.size ≤ 140737488351232 ∧ v.size ≤ 140737488351232 ∧ RecS ftC 4 w kv l ∧ FT.OkL w l
def FT.OkL (w : World) : List FT → Prop
  | [] => True
  | k :: l => k.Ok w ∧ FT.OkL w l
end
theorem FT.ind {P : FT → Prop} (h : ∀ f : FT, (∀ k ∈ f.kids, P k) → P f) : ∀ f, P f := by
  intro f
  refine FT.rec (motive_1 := P) (motive_2 := fun l => ∀ k ∈ l, P k) ?_ ?_ ?_ f
  · intro op d v kv l ih
    exact h _ ih
  · intro k hk; cases hk
  · intro k l h1 h2 x hx
    rcases List.mem_cons.1 hx with rfl | hx
    · exact h1
    · exact h2 x hx
theorem FT.okL_all {w : World} : ∀ {l : List FT}, FT.OkL w l ↔ ∀ k ∈ l, k.Ok w
  | [] => by simp [FT.OkL]
  | k :: l => by
    show k.Ok w ∧ FT.OkL w l ↔ _
    rw [FT.okL_all (l := l)]
    simp
theorem FT.ok_iff {w : World} {f : FT} : f.Ok w ↔ (-9223372036854775808 ≤ f.op ∧ f.op ≤ 9223372036854775807) ∧ f.dim.size ≤ 140737488351232 ∧ f.value.size ≤ 140737488351232 ∧ RecS ftC 4 w f.kv f.kids ∧ ∀ k ∈ f.kids, k.Ok w := by
  obtain ⟨op, d, v, kv, l⟩ := f
  show _ ∧ _ ∧ _ ∧ _ ∧ FT.OkL w l ↔ _
  rw [FT.okL_all]
  rfl
theorem FT.Ok.later {w w' : World} (hl : Later w w') : ∀ {f : FT}, f.Ok w → f.Ok w' := by
  intro f
  induction f using FT.ind with
  | h f ih =>
    intro hf
    obtain ⟨h1, h2, h3, h4, h5⟩ := FT.ok_iff.1 hf
    exact FT.ok_iff.2 ⟨h1, h2, h3, RecS.later h4 hl, fun k hk => ih k hk (h5 k hk)⟩
/-! What is asked of them. -/
mutual
def FT.deep : FT → Nat
  | .mk _ _ _ _ l => FT.deepL l + 1
def FT.deepL : List FT → Nat
  | [] => 0
  | k :: l => max k.deep (FT.deepL l)
end

mutual
def FT.dims : FT → List ByteArray
  | .mk op d _ _ l => (if op = 1 ∨ op = 2 then [d] else []) ++ FT.dimsL l
def FT.dimsL : List FT → List ByteArray
  | [] => []
  | k :: l => k.dims ++ FT.dimsL l
end

mutual
def FT.vals : FT → List ByteArray
  | .mk _ _ v _ l => v :: FT.valsL l
def FT.valsL : List FT → List ByteArray
  | [] => []
  | k :: l => k.vals ++ FT.valsL l
end
/-! The values of the conditions. -/
mutual
def FT.cvals : FT → List ByteArray
  | .mk op _ v _ l => (if op = 1 ∨ op = 2 then [v] else []) ++ FT.cvalsL l
def FT.cvalsL : List FT → List ByteArray
  | [] => []
  | k :: l => k.cvals ++ FT.cvalsL l
end
def FT.own (op : Int) (d v : ByteArray) (n : Nat) : Prop :=
  (op = 1 ∧ n = 0) ∨ (op = 2 ∧ n = 0 ∧ v.size = 0) ∨ (op = 3 ∧ n = 1 ∧ d.size = 0 ∧ v.size = 0) ∨ ((op = 4 ∨ op = 5) ∧ 2 ≤ n ∧ d.size = 0 ∧ v.size = 0)
instance (op : Int) (d v : ByteArray) (n : Nat) : Decidable (FT.own op d v n) := inferInstanceAs (Decidable (_ ∨ _))
mutual
def FT.form : FT → Nat → Bool
  | .mk op d v _ l, deep => !(deep == 0) && FT.formL l (deep - 1) && decide (FT.own op d v l.length)
def FT.formL : List FT → Nat → Bool
  | [], _ => true
  | k :: l, deep => k.form deep && FT.formL l deep
end
theorem FT.form_is (f : FT) (deep : Nat) : f.form deep = (!(deep == 0) && f.kids.all (fun k => k.form (deep - 1)) && decide (FT.own f.op f.dim f.value f.kids.length)) := by
  obtain ⟨op, d, v, kv, l⟩ := f
  have : ∀ (l : List FT) (n : Nat), FT.formL l n = l.all fun k => k.form n := by
    intro l n
    induction l with
    | nil => rfl
    | cons k l ih => show (k.form n && FT.formL l n) = _; rw [ih]; rfl
  show (!(deep == 0) && FT.formL l (deep - 1) && decide (FT.own op d v l.length)) = _
  rw [this]
  rfl
theorem FT.dims_is (f : FT) : f.dims = (if f.op = 1 ∨ f.op = 2 then [f.dim] else []) ++ f.kids.flatMap FT.dims := by
  obtain ⟨op, d, v, kv, l⟩ := f
  have : ∀ l : List FT, FT.dimsL l = l.flatMap FT.dims := by
    intro l
    induction l with
    | nil => rfl
    | cons k l ih => show k.dims ++ FT.dimsL l = _; rw [ih]; rfl
  show _ ++ FT.dimsL l = _
  rw [this]
  rfl
theorem FT.vals_is (f : FT) : f.vals = f.value :: f.kids.flatMap FT.vals := by
  obtain ⟨op, d, v, kv, l⟩ := f
  have : ∀ l : List FT, FT.valsL l = l.flatMap FT.vals := by
    intro l
    induction l with
    | nil => rfl
    | cons k l ih => show k.vals ++ FT.valsL l = _; rw [ih]; rfl
  show v :: FT.valsL l = _
  rw [this]
  rfl
theorem FT.deep_is (f : FT) : f.deep = f.kids.foldl (fun n k => max n k.deep) 0 + 1 := by
  obtain ⟨op, d, v, kv, l⟩ := f
  have : ∀ (l : List FT) (n : Nat), l.foldl (fun n k => max n k.deep) n = max n (FT.deepL l) := by
    intro l
    induction l with
    | nil => intro n; show n = max n 0; omega
    | cons k l ih => intro n; show l.foldl _ (max n k.deep) = max n (max k.deep (FT.deepL l)); rw [ih]; omega
  show FT.deepL l + 1 = l.foldl _ 0 + 1
  rw [this]; omega
end Go.Vc
namespace Go.Proofs.YtnofalhkapmcnaaGreat
open Go.Vc Go.RowKit Go.ChangeShapes
section
variable {H : Type} {enc : TypeId × Value → H} {w : World} {sp : Nat → Bool} {hd : Bool}
theorem filter_at : ∀ m, OZ m enc Tryz.prog w sp hd 29 (fun cs => ∃ f : FT, cs = ftC f ∧ f.Ok w) := by
  intro m
  induction m with
  | zero => intro m hm; omega
  | succ M ih =>
    intro m hm cs y hy hz
    have ih : OZ m enc Tryz.prog w sp hd 29 (fun cs => ∃ f : FT, cs = ftC f ∧ f.Ok w) := fun m' hm' => ih m' (by omega)
    obtain ⟨hl, hf⟩ := oz_fields (S := 4) Tryz.underlying29 (by kernel_rfl) hy hz
    match cs, hl with
    | [c0, c1, c2, c3], _ =>
      obtain ⟨op, h0, w0⟩ := hf 0 _ 1 _ rfl (by kernel_rfl) (oz_i64 Tryz.underlying26)
      obtain ⟨d, h1, w1⟩ := hf 1 _ 1 _ rfl (by kernel_rfl) (oz_string Tryz.underlying9)
      obtain ⟨v, h2, w2⟩ := hf 2 _ 1 _ rfl (by kernel_rfl) (oz_string Tryz.underlying9)
      obtain ⟨kv, l, h3, w3, w4, _⟩ := hf 3 _ 1 _ rfl (by kernel_rfl) (oz_slice (en := ftC) (Q := fun f => f.Ok w) (s := 4) Tryz.underlying27 (by kernel_rfl) ih)
      obtain rfl : c0 = _ := (List.cons.inj h0).1
      obtain rfl : c1 = _ := (List.cons.inj h1).1
      obtain rfl : c2 = _ := (List.cons.inj h2).1
      obtain rfl : c3 = _ := (List.cons.inj h3).1
      exact ⟨.mk op d v c3 l, rfl, FT.ok_iff.2 ⟨w0, w1, w2, w3, w4⟩⟩
end
end Go.Proofs.YtnofalhkapmcnaaGreat
end
section
namespace Go.Proofs.YtnofalhkapmcnaaGreat
open Go.Vc
theorem mixed : Tryz.prog.follows .mixedOrders = true := by kernel_rfl
@[push_cast] theorem sz1 : szOf Tryz.prog 1 = some 1 := by kernel_rfl
theorem ti1 : (Tryz.prog.info? 1).map (fun i => (i.zero, i.size, i.bytes)) = some (some .nilFunc, 1, 8) := by kernel_rfl
@[push_cast] theorem al1 (K : Value → World → Prop) (w : World) : vAlloc Tryz.prog 1 K w = K (.pointer (some ⟨w.heap.size, 0, none⟩)) (w.alloc (.cells #[.nilFunc] 1)) := vAlloc_ok ti1 K w
@[push_cast] theorem one1 : oneD (Tryz.prog.underlying 1) = true := by kernel_rfl
@[push_cast] theorem sz2 : szOf Tryz.prog 2 = some 1 := by kernel_rfl
theorem ti2 : (Tryz.prog.info? 2).map (fun i => (i.zero, i.size, i.bytes)) = some (some (.int .i64 0), 1, 8) := by kernel_rfl
@[push_cast] theorem al2 (K : Value → World → Prop) (w : World) : vAlloc Tryz.prog 2 K w = K (.pointer (some ⟨w.heap.size, 0, none⟩)) (w.alloc (.cells #[(.int .i64 0)] 2)) := vAlloc_ok ti2 K w
attribute [push_cast] Tryz.underlying2
@[push_cast] theorem sz3 : szOf Tryz.prog 3 = some 1 := by kernel_rfl
theorem ti3 : (Tryz.prog.info? 3).map (fun i => (i.zero, i.size, i.bytes)) = some (some (.int .i64 0), 1, 8) := by kernel_rfl
@[push_cast] theorem al3 (K : Value → World → Prop) (w : World) : vAlloc Tryz.prog 3 K w = K (.pointer (some ⟨w.heap.size, 0, none⟩)) (w.alloc (.cells #[(.int .i64 0)] 3)) := vAlloc_ok ti3 K w
attribute [push_cast] Tryz.underlying3
@[push_cast] theorem sz4 : szOf Tryz.prog 4 = some 1 := by kernel_rfl
theorem ti4 : (Tryz.prog.info? 4).map (fun i => (i.zero, i.size, i.bytes)) = some (some (.bool false), 1, 1) := by kernel_rfl
@[push_cast] theorem al4 (K : Value → World → Prop) (w : World) : vAlloc Tryz.prog 4 K w = K (.pointer (some ⟨w.heap.size, 0, none⟩)) (w.alloc (.cells #[(.bool false)] 4)) := vAlloc_ok ti4 K w
attribute [push_cast] Tryz.underlying4
@[push_cast] theorem sz5 : szOf Tryz.prog 5 = some 1 := by kernel_rfl
theorem ti5 : (Tryz.prog.info? 5).map (fun i => (i.zero, i.size, i.bytes)) = some (some (.int .u8 0), 1, 1) := by kernel_rfl
@[push_cast] theorem al5 (K : Value → World → Prop) (w : World) : vAlloc Tryz.prog 5 K w = K (.pointer (some ⟨w.heap.size, 0, none⟩)) (w.alloc (.cells #[(.int .u8 0)] 5)) := vAlloc_ok ti5 K w
attribute [push_cast] Tryz.underlying5
@[push_cast] theorem sz6 : szOf Tryz.prog 6 = some 1 := by kernel_rfl
theorem ti6 : (Tryz.prog.info? 6).map (fun i => (i.zero, i.size, i.bytes)) = some (some (.int .u8 0), 1, 1) := by kernel_rfl
@[push_cast] theorem al6 (K : Value → World → Prop) (w : World) : vAlloc Tryz.prog 6 K w = K (.pointer (some ⟨w.heap.size, 0, none⟩)) (w.alloc (.cells #[(.int .u8 0)] 6)) := vAlloc_ok ti6 K w
attribute [push_cast] Tryz.underlying6
@[push_cast] theorem sz7 : szOf Tryz.prog 7 = some 4 := by kernel_rfl
theorem ti7 : (Tryz.prog.info? 7).map (fun i => (i.zero, i.size, i.bytes)) = some (some (.agg #[(.int .i64 0), (.int .i64 0), (.bool false), (.int .u8 0)]), 4, 24) := by kernel_rfl
@[push_cast] theorem al7 (K : Value → World → Prop) (w : World) : vAlloc Tryz.prog 7 K w = K (.pointer (some ⟨w.heap.size, 0, none⟩)) (w.alloc (.cells #[(.int .i64 0), (.int .i64 0), (.bool false), (.int .u8 0)] 7)) := vAlloc_ok ti7 K w
attribute [push_cast] Tryz.underlying7
@[push_cast] theorem fld7_0 : fieldOf Tryz.prog 7 0 = some (0, 2) := by kernel_rfl
@[push_cast] theorem fld7_1 : fieldOf Tryz.prog 7 1 = some (1, 3) := by kernel_rfl
@[push_cast] theorem fld7_2 : fieldOf Tryz.prog 7 2 = some (2, 4) := by kernel_rfl
@[push_cast] theorem fld7_3 : fieldOf Tryz.prog 7 3 = some (3, 6) := by kernel_rfl
@[push_cast] theorem sz9 : szOf Tryz.prog 9 = some 1 := by kernel_rfl
theorem ti9 : (Tryz.prog.info? 9).map (fun i => (i.zero, i.size, i.bytes)) = some (some (.string ⟨#[]⟩), 1, 16) := by kernel_rfl
@[push_cast] theorem al9 (K : Value → World → Prop) (w : World) : vAlloc Tryz.prog 9 K w = K (.pointer (some ⟨w.heap.size, 0, none⟩)) (w.alloc (.cells #[(.string ⟨#[]⟩)] 9)) := vAlloc_ok ti9 K w
attribute [push_cast] Tryz.underlying9
@[push_cast] theorem sz20 : szOf Tryz.prog 20 = some 1 := by kernel_rfl
theorem ti20 : (Tryz.prog.info? 20).map (fun i => (i.zero, i.size, i.bytes)) = some (some .nilIface, 1, 16) := by kernel_rfl
@[push_cast] theorem al20 (K : Value → World → Prop) (w : World) : vAlloc Tryz.prog 20 K w = K (.pointer (some ⟨w.heap.size, 0, none⟩)) (w.alloc (.cells #[.nilIface] 20)) := vAlloc_ok ti20 K w
@[push_cast] theorem one20 : oneD (Tryz.prog.underlying 20) = true := by kernel_rfl
@[push_cast] theorem sz22 : szOf Tryz.prog 22 = some 1 := by kernel_rfl
theorem ti22 : (Tryz.prog.info? 22).map (fun i => (i.zero, i.size, i.bytes)) = some (some (.slice none 0 0), 1, 24) := by kernel_rfl
@[push_cast] theorem al22 (K : Value → World → Prop) (w : World) : vAlloc Tryz.prog 22 K w = K (.pointer (some ⟨w.heap.size, 0, none⟩)) (w.alloc (.cells #[(.slice none 0 0)] 22)) := vAlloc_ok ti22 K w
attribute [push_cast] Tryz.underlying22
@[push_cast] theorem sz23 : szOf Tryz.prog 23 = some 2 := by kernel_rfl
theorem ti23 : (Tryz.prog.info? 23).map (fun i => (i.zero, i.size, i.bytes)) = some (some (.agg #[(.slice none 0 0), (.slice none 0 0)]), 2, 48) := by kernel_rfl
@[push_cast] theorem al23 (K : Value → World → Prop) (w : World) : vAlloc Tryz.prog 23 K w = K (.pointer (some ⟨w.heap.size, 0, none⟩)) (w.alloc (.cells #[(.slice none 0 0), (.slice none 0 0)] 23)) := vAlloc_ok ti23 K w
attribute [push_cast] Tryz.underlying23
@[push_cast] theorem fld23_0 : fieldOf Tryz.prog 23 0 = some (0, 22) := by kernel_rfl
@[push_cast] theorem fld23_1 : fieldOf Tryz.prog 23 1 = some (1, 22) := by kernel_rfl
@[push_cast] theorem sz24 : szOf Tryz.prog 24 = some 2 := by kernel_rfl
theorem ti24 : (Tryz.prog.info? 24).map (fun i => (i.zero, i.size, i.bytes)) = some (some (.agg #[(.slice none 0 0), (.slice none 0 0)]), 2, 48) := by kernel_rfl
@[push_cast] theorem al24 (K : Value → World → Prop) (w : World) : vAlloc Tryz.prog 24 K w = K (.pointer (some ⟨w.heap.size, 0, none⟩)) (w.alloc (.cells #[(.slice none 0 0), (.slice none 0 0)] 24)) := vAlloc_ok ti24 K w
attribute [push_cast] Tryz.underlying24
@[push_cast] theorem fld24_0 : fieldOf Tryz.prog 24 0 = some (0, 22) := by kernel_rfl
@[push_cast] theorem fld24_1 : fieldOf Tryz.prog 24 1 = some (1, 22) := by kernel_rfl
@[push_cast] theorem sz25 : szOf Tryz.prog 25 = some 1 := by kernel_rfl
theorem ti25 : (Tryz.prog.info? 25).map (fun i => (i.zero, i.size, i.bytes)) = some (some (.slice none 0 0), 1, 24) := by kernel_rfl
@[push_cast] theorem al25 (K : Value → World → Prop) (w : World) : vAlloc Tryz.prog 25 K w = K (.pointer (some ⟨w.heap.size, 0, none⟩)) (w.alloc (.cells #[(.slice none 0 0)] 25)) := vAlloc_ok ti25 K w
attribute [push_cast] Tryz.underlying25
@[push_cast] theorem sz26 : szOf Tryz.prog 26 = some 1 := by kernel_rfl
theorem ti26 : (Tryz.prog.info? 26).map (fun i => (i.zero, i.size, i.bytes)) = some (some (.int .i64 0), 1, 8) := by kernel_rfl
@[push_cast] theorem al26 (K : Value → World → Prop) (w : World) : vAlloc Tryz.prog 26 K w = K (.pointer (some ⟨w.heap.size, 0, none⟩)) (w.alloc (.cells #[(.int .i64 0)] 26)) := vAlloc_ok ti26 K w
attribute [push_cast] Tryz.underlying26
@[push_cast] theorem sz27 : szOf Tryz.prog 27 = some 1 := by kernel_rfl
theorem ti27 : (Tryz.prog.info? 27).map (fun i => (i.zero, i.size, i.bytes)) = some (some (.slice none 0 0), 1, 24) := by kernel_rfl
@[push_cast] theorem al27 (K : Value → World → Prop) (w : World) : vAlloc Tryz.prog 27 K w = K (.pointer (some ⟨w.heap.size, 0, none⟩)) (w.alloc (.cells #[(.slice none 0 0)] 27)) := vAlloc_ok ti27 K w
attribute [push_cast] Tryz.underlying27
@[push_cast] theorem sz28 : szOf Tryz.prog 28 = some 4 := by kernel_rfl
theorem ti28 : (Tryz.prog.info? 28).map (fun i => (i.zero, i.size, i.bytes)) = some (some (.agg #[(.int .i64 0), (.string ⟨#[]⟩), (.string ⟨#[]⟩), (.slice none 0 0)]), 4, 64) := by kernel_rfl
@[push_cast] theorem al28 (K : Value → World → Prop) (w : World) : vAlloc Tryz.prog 28 K w = K (.pointer (some ⟨w.heap.size, 0, none⟩)) (w.alloc (.cells #[(.int .i64 0), (.string ⟨#[]⟩), (.string ⟨#[]⟩), (.slice none 0 0)] 28)) := vAlloc_ok ti28 K w
attribute [push_cast] Tryz.underlying28
@[push_cast] theorem fld28_0 : fieldOf Tryz.prog 28 0 = some (0, 26) := by kernel_rfl
@[push_cast] theorem fld28_1 : fieldOf Tryz.prog 28 1 = some (1, 9) := by kernel_rfl
@[push_cast] theorem fld28_2 : fieldOf Tryz.prog 28 2 = some (2, 9) := by kernel_rfl
@[push_cast] theorem fld28_3 : fieldOf Tryz.prog 28 3 = some (3, 27) := by kernel_rfl
@[push_cast] theorem sz29 : szOf Tryz.prog 29 = some 4 := by kernel_rfl
theorem ti29 : (Tryz.prog.info? 29).map (fun i => (i.zero, i.size, i.bytes)) = some (some (.agg #[(.int .i64 0), (.string ⟨#[]⟩), (.string ⟨#[]⟩), (.slice none 0 0)]), 4, 64) := by kernel_rfl
@[push_cast] theorem al29 (K : Value → World → Prop) (w : World) : vAlloc Tryz.prog 29 K w = K (.pointer (some ⟨w.heap.size, 0, none⟩)) (w.alloc (.cells #[(.int .i64 0), (.string ⟨#[]⟩), (.string ⟨#[]⟩), (.slice none 0 0)] 29)) := vAlloc_ok ti29 K w
attribute [push_cast] Tryz.underlying29
@[push_cast] theorem fld29_0 : fieldOf Tryz.prog 29 0 = some (0, 26) := by kernel_rfl
@[push_cast] theorem fld29_1 : fieldOf Tryz.prog 29 1 = some (1, 9) := by kernel_rfl
@[push_cast] theorem fld29_2 : fieldOf Tryz.prog 29 2 = some (2, 9) := by kernel_rfl
@[push_cast] theorem fld29_3 : fieldOf Tryz.prog 29 3 = some (3, 27) := by kernel_rfl
@[push_cast] theorem sz30 : szOf Tryz.prog 30 = some 1 := by kernel_rfl
theorem ti30 : (Tryz.prog.info? 30).map (fun i => (i.zero, i.size, i.bytes)) = some (some (.slice none 0 0), 1, 24) := by kernel_rfl
@[push_cast] theorem al30 (K : Value → World → Prop) (w : World) : vAlloc Tryz.prog 30 K w = K (.pointer (some ⟨w.heap.size, 0, none⟩)) (w.alloc (.cells #[(.slice none 0 0)] 30)) := vAlloc_ok ti30 K w
attribute [push_cast] Tryz.underlying30
@[push_cast] theorem sz31 : szOf Tryz.prog 31 = some 12 := by kernel_rfl
theorem ti31 : (Tryz.prog.info? 31).map (fun i => (i.zero, i.size, i.bytes)) = some (some (.agg #[(.slice none 0 0), (.int .i64 0), (.int .i64 0), (.int .i64 0), (.slice none 0 0), (.int .i64 0), (.string ⟨#[]⟩), (.string ⟨#[]⟩), (.slice none 0 0), (.slice none 0 0), (.int .i64 0), (.int .i64 0)]), 12, 176) := by kernel_rfl
@[push_cast] theorem al31 (K : Value → World → Prop) (w : World) : vAlloc Tryz.prog 31 K w = K (.pointer (some ⟨w.heap.size, 0, none⟩)) (w.alloc (.cells #[(.slice none 0 0), (.int .i64 0), (.int .i64 0), (.int .i64 0), (.slice none 0 0), (.int .i64 0), (.string ⟨#[]⟩), (.string ⟨#[]⟩), (.slice none 0 0), (.slice none 0 0), (.int .i64 0), (.int .i64 0)] 31)) := vAlloc_ok ti31 K w
attribute [push_cast] Tryz.underlying31
@[push_cast] theorem fld31_0 : fieldOf Tryz.prog 31 0 = some (0, 25) := by kernel_rfl
@[push_cast] theorem fld31_1 : fieldOf Tryz.prog 31 1 = some (1, 3) := by kernel_rfl
@[push_cast] theorem fld31_2 : fieldOf Tryz.prog 31 2 = some (2, 3) := by kernel_rfl
@[push_cast] theorem fld31_3 : fieldOf Tryz.prog 31 3 = some (3, 3) := by kernel_rfl
@[push_cast] theorem fld31_4 : fieldOf Tryz.prog 31 4 = some (4, 22) := by kernel_rfl
@[push_cast] theorem fld31_5 : fieldOf Tryz.prog 31 5 = some (5, 29) := by kernel_rfl
@[push_cast] theorem fld31_6 : fieldOf Tryz.prog 31 6 = some (9, 30) := by kernel_rfl
@[push_cast] theorem fld31_7 : fieldOf Tryz.prog 31 7 = some (10, 3) := by kernel_rfl
@[push_cast] theorem fld31_8 : fieldOf Tryz.prog 31 8 = some (11, 3) := by kernel_rfl
@[push_cast] theorem sz32 : szOf Tryz.prog 32 = some 12 := by kernel_rfl
theorem ti32 : (Tryz.prog.info? 32).map (fun i => (i.zero, i.size, i.bytes)) = some (some (.agg #[(.slice none 0 0), (.int .i64 0), (.int .i64 0), (.int .i64 0), (.slice none 0 0), (.int .i64 0), (.string ⟨#[]⟩), (.string ⟨#[]⟩), (.slice none 0 0), (.slice none 0 0), (.int .i64 0), (.int .i64 0)]), 12, 176) := by kernel_rfl
@[push_cast] theorem al32 (K : Value → World → Prop) (w : World) : vAlloc Tryz.prog 32 K w = K (.pointer (some ⟨w.heap.size, 0, none⟩)) (w.alloc (.cells #[(.slice none 0 0), (.int .i64 0), (.int .i64 0), (.int .i64 0), (.slice none 0 0), (.int .i64 0), (.string ⟨#[]⟩), (.string ⟨#[]⟩), (.slice none 0 0), (.slice none 0 0), (.int .i64 0), (.int .i64 0)] 32)) := vAlloc_ok ti32 K w
attribute [push_cast] Tryz.underlying32
@[push_cast] theorem fld32_0 : fieldOf Tryz.prog 32 0 = some (0, 25) := by kernel_rfl
@[push_cast] theorem fld32_1 : fieldOf Tryz.prog 32 1 = some (1, 3) := by kernel_rfl
@[push_cast] theorem fld32_2 : fieldOf Tryz.prog 32 2 = some (2, 3) := by kernel_rfl
@[push_cast] theorem fld32_3 : fieldOf Tryz.prog 32 3 = some (3, 3) := by kernel_rfl
@[push_cast] theorem fld32_4 : fieldOf Tryz.prog 32 4 = some (4, 22) := by kernel_rfl
@[push_cast] theorem fld32_5 : fieldOf Tryz.prog 32 5 = some (5, 29) := by kernel_rfl
@[push_cast] theorem fld32_6 : fieldOf Tryz.prog 32 6 = some (9, 30) := by kernel_rfl
@[push_cast] theorem fld32_7 : fieldOf Tryz.prog 32 7 = some (10, 3) := by kernel_rfl
@[push_cast] theorem fld32_8 : fieldOf Tryz.prog 32 8 = some (11, 3) := by kernel_rfl
@[push_cast] theorem sz33 : szOf Tryz.prog 33 = some 1 := by kernel_rfl
theorem ti33 : (Tryz.prog.info? 33).map (fun i => (i.zero, i.size, i.bytes)) = some (some (.slice none 0 0), 1, 24) := by kernel_rfl
@[push_cast] theorem al33 (K : Value → World → Prop) (w : World) : vAlloc Tryz.prog 33 K w = K (.pointer (some ⟨w.heap.size, 0, none⟩)) (w.alloc (.cells #[(.slice none 0 0)] 33)) := vAlloc_ok ti33 K w
attribute [push_cast] Tryz.underlying33
@[push_cast] theorem sz36 : szOf Tryz.prog 36 = some 1 := by kernel_rfl
theorem ti36 : (Tryz.prog.info? 36).map (fun i => (i.zero, i.size, i.bytes)) = some (some (.slice none 0 0), 1, 24) := by kernel_rfl
@[push_cast] theorem al36 (K : Value → World → Prop) (w : World) : vAlloc Tryz.prog 36 K w = K (.pointer (some ⟨w.heap.size, 0, none⟩)) (w.alloc (.cells #[(.slice none 0 0)] 36)) := vAlloc_ok ti36 K w
attribute [push_cast] Tryz.underlying36
@[push_cast] theorem sz37 : szOf Tryz.prog 37 = some 1 := by kernel_rfl
theorem ti37 : (Tryz.prog.info? 37).map (fun i => (i.zero, i.size, i.bytes)) = some (some (.int .i64 0), 1, 8) := by kernel_rfl
@[push_cast] theorem al37 (K : Value → World → Prop) (w : World) : vAlloc Tryz.prog 37 K w = K (.pointer (some ⟨w.heap.size, 0, none⟩)) (w.alloc (.cells #[(.int .i64 0)] 37)) := vAlloc_ok ti37 K w
attribute [push_cast] Tryz.underlying37
@[push_cast] theorem sz51 : szOf Tryz.prog 51 = some 3 := by kernel_rfl
theorem ti51 : (Tryz.prog.info? 51).map (fun i => (i.zero, i.size, i.bytes)) = some (some (.agg #[(.int .i64 0), (.int .i64 0), (.int .i64 0)]), 3, 24) := by kernel_rfl
@[push_cast] theorem al51 (K : Value → World → Prop) (w : World) : vAlloc Tryz.prog 51 K w = K (.pointer (some ⟨w.heap.size, 0, none⟩)) (w.alloc (.cells #[(.int .i64 0), (.int .i64 0), (.int .i64 0)] 51)) := vAlloc_ok ti51 K w
attribute [push_cast] Tryz.underlying51
@[push_cast] theorem fld51_0 : fieldOf Tryz.prog 51 0 = some (0, 3) := by kernel_rfl
@[push_cast] theorem fld51_1 : fieldOf Tryz.prog 51 1 = some (1, 3) := by kernel_rfl
@[push_cast] theorem fld51_2 : fieldOf Tryz.prog 51 2 = some (2, 3) := by kernel_rfl
@[push_cast] theorem sz52 : szOf Tryz.prog 52 = some 3 := by kernel_rfl
theorem ti52 : (Tryz.prog.info? 52).map (fun i => (i.zero, i.size, i.bytes)) = some (some (.agg #[(.int .i64 0), (.int .i64 0), (.int .i64 0)]), 3, 24) := by kernel_rfl
@[push_cast] theorem al52 (K : Value → World → Prop) (w : World) : vAlloc Tryz.prog 52 K w = K (.pointer (some ⟨w.heap.size, 0, none⟩)) (w.alloc (.cells #[(.int .i64 0), (.int .i64 0), (.int .i64 0)] 52)) := vAlloc_ok ti52 K w
attribute [push_cast] Tryz.underlying52
@[push_cast] theorem fld52_0 : fieldOf Tryz.prog 52 0 = some (0, 3) := by kernel_rfl
@[push_cast] theorem fld52_1 : fieldOf Tryz.prog 52 1 = some (1, 3) := by kernel_rfl
@[push_cast] theorem fld52_2 : fieldOf Tryz.prog 52 2 = some (2, 3) := by kernel_rfl
@[push_cast] theorem sz53 : szOf Tryz.prog 53 = some 1 := by kernel_rfl
theorem ti53 : (Tryz.prog.info? 53).map (fun i => (i.zero, i.size, i.bytes)) = some (some (.slice none 0 0), 1, 24) := by kernel_rfl
@[push_cast] theorem al53 (K : Value → World → Prop) (w : World) : vAlloc Tryz.prog 53 K w = K (.pointer (some ⟨w.heap.size, 0, none⟩)) (w.alloc (.cells #[(.slice none 0 0)] 53)) := vAlloc_ok ti53 K w
attribute [push_cast] Tryz.underlying53
@[push_cast] theorem sz54 : szOf Tryz.prog 54 = some 4 := by kernel_rfl
theorem ti54 : (Tryz.prog.info? 54).map (fun i => (i.zero, i.size, i.bytes)) = some (some (.agg #[(.int .i64 0), (.slice none 0 0), (.int .i64 0), (.slice none 0 0)]), 4, 64) := by kernel_rfl
@[push_cast] theorem al54 (K : Value → World → Prop) (w : World) : vAlloc Tryz.prog 54 K w = K (.pointer (some ⟨w.heap.size, 0, none⟩)) (w.alloc (.cells #[(.int .i64 0), (.slice none 0 0), (.int .i64 0), (.slice none 0 0)] 54)) := vAlloc_ok ti54 K w
attribute [push_cast] Tryz.underlying54
@[push_cast] theorem fld54_0 : fieldOf Tryz.prog 54 0 = some (0, 3) := by kernel_rfl
@[push_cast] theorem fld54_1 : fieldOf Tryz.prog 54 1 = some (1, 22) := by kernel_rfl
@[push_cast] theorem fld54_2 : fieldOf Tryz.prog 54 2 = some (2, 3) := by kernel_rfl
@[push_cast] theorem fld54_3 : fieldOf Tryz.prog 54 3 = some (3, 53) := by kernel_rfl
@[push_cast] theorem sz55 : szOf Tryz.prog 55 = some 4 := by kernel_rfl
theorem ti55 : (Tryz.prog.info? 55).map (fun i => (i.zero, i.size, i.bytes)) = some (some (.agg #[(.int .i64 0), (.slice none 0 0), (.int .i64 0), (.slice none 0 0)]), 4, 64) := by kernel_rfl
@[push_cast] theorem al55 (K : Value → World → Prop) (w : World) : vAlloc Tryz.prog 55 K w = K (.pointer (some ⟨w.heap.size, 0, none⟩)) (w.alloc (.cells #[(.int .i64 0), (.slice none 0 0), (.int .i64 0), (.slice none 0 0)] 55)) := vAlloc_ok ti55 K w
attribute [push_cast] Tryz.underlying55
@[push_cast] theorem fld55_0 : fieldOf Tryz.prog 55 0 = some (0, 3) := by kernel_rfl
@[push_cast] theorem fld55_1 : fieldOf Tryz.prog 55 1 = some (1, 22) := by kernel_rfl
@[push_cast] theorem fld55_2 : fieldOf Tryz.prog 55 2 = some (2, 3) := by kernel_rfl
@[push_cast] theorem fld55_3 : fieldOf Tryz.prog 55 3 = some (3, 53) := by kernel_rfl
@[push_cast] theorem sz56 : szOf Tryz.prog 56 = some 1 := by kernel_rfl
theorem ti56 : (Tryz.prog.info? 56).map (fun i => (i.zero, i.size, i.bytes)) = some (some (.int .i64 0), 1, 8) := by kernel_rfl
@[push_cast] theorem al56 (K : Value → World → Prop) (w : World) : vAlloc Tryz.prog 56 K w = K (.pointer (some ⟨w.heap.size, 0, none⟩)) (w.alloc (.cells #[(.int .i64 0)] 56)) := vAlloc_ok ti56 K w
attribute [push_cast] Tryz.underlying56
@[push_cast] theorem sz57 : szOf Tryz.prog 57 = some 2 := by kernel_rfl
theorem ti57 : (Tryz.prog.info? 57).map (fun i => (i.zero, i.size, i.bytes)) = some (some (.agg #[(.int .i64 0), (.string ⟨#[]⟩)]), 2, 24) := by kernel_rfl
@[push_cast] theorem al57 (K : Value → World → Prop) (w : World) : vAlloc Tryz.prog 57 K w = K (.pointer (some ⟨w.heap.size, 0, none⟩)) (w.alloc (.cells #[(.int .i64 0), (.string ⟨#[]⟩)] 57)) := vAlloc_ok ti57 K w
attribute [push_cast] Tryz.underlying57
@[push_cast] theorem fld57_0 : fieldOf Tryz.prog 57 0 = some (0, 56) := by kernel_rfl
@[push_cast] theorem fld57_1 : fieldOf Tryz.prog 57 1 = some (1, 9) := by kernel_rfl
@[push_cast] theorem sz58 : szOf Tryz.prog 58 = some 2 := by kernel_rfl
theorem ti58 : (Tryz.prog.info? 58).map (fun i => (i.zero, i.size, i.bytes)) = some (some (.agg #[(.int .i64 0), (.string ⟨#[]⟩)]), 2, 24) := by kernel_rfl
@[push_cast] theorem al58 (K : Value → World → Prop) (w : World) : vAlloc Tryz.prog 58 K w = K (.pointer (some ⟨w.heap.size, 0, none⟩)) (w.alloc (.cells #[(.int .i64 0), (.string ⟨#[]⟩)] 58)) := vAlloc_ok ti58 K w
attribute [push_cast] Tryz.underlying58
@[push_cast] theorem fld58_0 : fieldOf Tryz.prog 58 0 = some (0, 56) := by kernel_rfl
@[push_cast] theorem fld58_1 : fieldOf Tryz.prog 58 1 = some (1, 9) := by kernel_rfl
@[push_cast] theorem sz59 : szOf Tryz.prog 59 = some 1 := by kernel_rfl
theorem ti59 : (Tryz.prog.info? 59).map (fun i => (i.zero, i.size, i.bytes)) = some (some (.slice none 0 0), 1, 24) := by kernel_rfl
@[push_cast] theorem al59 (K : Value → World → Prop) (w : World) : vAlloc Tryz.prog 59 K w = K (.pointer (some ⟨w.heap.size, 0, none⟩)) (w.alloc (.cells #[(.slice none 0 0)] 59)) := vAlloc_ok ti59 K w
attribute [push_cast] Tryz.underlying59
@[push_cast] theorem sz60 : szOf Tryz.prog 60 = some 3 := by kernel_rfl
theorem ti60 : (Tryz.prog.info? 60).map (fun i => (i.zero, i.size, i.bytes)) = some (some (.agg #[(.int .i64 0), (.slice none 0 0), (.slice none 0 0)]), 3, 56) := by kernel_rfl
@[push_cast] theorem al60 (K : Value → World → Prop) (w : World) : vAlloc Tryz.prog 60 K w = K (.pointer (some ⟨w.heap.size, 0, none⟩)) (w.alloc (.cells #[(.int .i64 0), (.slice none 0 0), (.slice none 0 0)] 60)) := vAlloc_ok ti60 K w
attribute [push_cast] Tryz.underlying60
@[push_cast] theorem fld60_0 : fieldOf Tryz.prog 60 0 = some (0, 3) := by kernel_rfl
@[push_cast] theorem fld60_1 : fieldOf Tryz.prog 60 1 = some (1, 22) := by kernel_rfl
@[push_cast] theorem fld60_2 : fieldOf Tryz.prog 60 2 = some (2, 59) := by kernel_rfl
@[push_cast] theorem sz61 : szOf Tryz.prog 61 = some 3 := by kernel_rfl
theorem ti61 : (Tryz.prog.info? 61).map (fun i => (i.zero, i.size, i.bytes)) = some (some (.agg #[(.int .i64 0), (.slice none 0 0), (.slice none 0 0)]), 3, 56) := by kernel_rfl
@[push_cast] theorem al61 (K : Value → World → Prop) (w : World) : vAlloc Tryz.prog 61 K w = K (.pointer (some ⟨w.heap.size, 0, none⟩)) (w.alloc (.cells #[(.int .i64 0), (.slice none 0 0), (.slice none 0 0)] 61)) := vAlloc_ok ti61 K w
attribute [push_cast] Tryz.underlying61
@[push_cast] theorem fld61_0 : fieldOf Tryz.prog 61 0 = some (0, 3) := by kernel_rfl
@[push_cast] theorem fld61_1 : fieldOf Tryz.prog 61 1 = some (1, 22) := by kernel_rfl
@[push_cast] theorem fld61_2 : fieldOf Tryz.prog 61 2 = some (2, 59) := by kernel_rfl
@[push_cast] theorem sz70 : szOf Tryz.prog 70 = some 1 := by kernel_rfl
theorem ti70 : (Tryz.prog.info? 70).map (fun i => (i.zero, i.size, i.bytes)) = some (some .nilFunc, 1, 8) := by kernel_rfl
@[push_cast] theorem al70 (K : Value → World → Prop) (w : World) : vAlloc Tryz.prog 70 K w = K (.pointer (some ⟨w.heap.size, 0, none⟩)) (w.alloc (.cells #[.nilFunc] 70)) := vAlloc_ok ti70 K w
@[push_cast] theorem one70 : oneD (Tryz.prog.underlying 70) = true := by kernel_rfl
@[push_cast] theorem sz89 : szOf Tryz.prog 89 = some 1 := by kernel_rfl
theorem ti89 : (Tryz.prog.info? 89).map (fun i => (i.zero, i.size, i.bytes)) = some (some .nilFunc, 1, 8) := by kernel_rfl
@[push_cast] theorem al89 (K : Value → World → Prop) (w : World) : vAlloc Tryz.prog 89 K w = K (.pointer (some ⟨w.heap.size, 0, none⟩)) (w.alloc (.cells #[.nilFunc] 89)) := vAlloc_ok ti89 K w
@[push_cast] theorem one89 : oneD (Tryz.prog.underlying 89) = true := by kernel_rfl
@[push_cast] theorem sz91 : szOf Tryz.prog 91 = some 1 := by kernel_rfl
theorem ti91 : (Tryz.prog.info? 91).map (fun i => (i.zero, i.size, i.bytes)) = some (some .nilFunc, 1, 8) := by kernel_rfl
@[push_cast] theorem al91 (K : Value → World → Prop) (w : World) : vAlloc Tryz.prog 91 K w = K (.pointer (some ⟨w.heap.size, 0, none⟩)) (w.alloc (.cells #[.nilFunc] 91)) := vAlloc_ok ti91 K w
@[push_cast] theorem one91 : oneD (Tryz.prog.underlying 91) = true := by kernel_rfl
@[push_cast] theorem sz95 : szOf Tryz.prog 95 = some 1 := by kernel_rfl
theorem ti95 : (Tryz.prog.info? 95).map (fun i => (i.zero, i.size, i.bytes)) = some (some .nilFunc, 1, 8) := by kernel_rfl
@[push_cast] theorem al95 (K : Value → World → Prop) (w : World) : vAlloc Tryz.prog 95 K w = K (.pointer (some ⟨w.heap.size, 0, none⟩)) (w.alloc (.cells #[.nilFunc] 95)) := vAlloc_ok ti95 K w
@[push_cast] theorem one95 : oneD (Tryz.prog.underlying 95) = true := by kernel_rfl
@[push_cast] theorem sz102 : szOf Tryz.prog 102 = some 4 := by kernel_rfl
theorem ti102 : (Tryz.prog.info? 102).map (fun i => (i.zero, i.size, i.bytes)) = some (some (.agg #[(.int .i64 0), (.string ⟨#[]⟩), (.int .i64 0), (.int .i64 0)]), 4, 40) := by kernel_rfl
@[push_cast] theorem al102 (K : Value → World → Prop) (w : World) : vAlloc Tryz.prog 102 K w = K (.pointer (some ⟨w.heap.size, 0, none⟩)) (w.alloc (.cells #[(.int .i64 0), (.string ⟨#[]⟩), (.int .i64 0), (.int .i64 0)] 102)) := vAlloc_ok ti102 K w
attribute [push_cast] Tryz.underlying102
@[push_cast] theorem fld102_0 : fieldOf Tryz.prog 102 0 = some (0, 58) := by kernel_rfl
@[push_cast] theorem fld102_1 : fieldOf Tryz.prog 102 1 = some (2, 3) := by kernel_rfl
@[push_cast] theorem fld102_2 : fieldOf Tryz.prog 102 2 = some (3, 3) := by kernel_rfl
@[push_cast] theorem sz103 : szOf Tryz.prog 103 = some 4 := by kernel_rfl
theorem ti103 : (Tryz.prog.info? 103).map (fun i => (i.zero, i.size, i.bytes)) = some (some (.agg #[(.int .i64 0), (.string ⟨#[]⟩), (.int .i64 0), (.int .i64 0)]), 4, 40) := by kernel_rfl
@[push_cast] theorem al103 (K : Value → World → Prop) (w : World) : vAlloc Tryz.prog 103 K w = K (.pointer (some ⟨w.heap.size, 0, none⟩)) (w.alloc (.cells #[(.int .i64 0), (.string ⟨#[]⟩), (.int .i64 0), (.int .i64 0)] 103)) := vAlloc_ok ti103 K w
attribute [push_cast] Tryz.underlying103
@[push_cast] theorem fld103_0 : fieldOf Tryz.prog 103 0 = some (0, 58) := by kernel_rfl
@[push_cast] theorem fld103_1 : fieldOf Tryz.prog 103 1 = some (2, 3) := by kernel_rfl
@[push_cast] theorem fld103_2 : fieldOf Tryz.prog 103 2 = some (3, 3) := by kernel_rfl
@[push_cast] theorem sz104 : szOf Tryz.prog 104 = some 1 := by kernel_rfl
theorem ti104 : (Tryz.prog.info? 104).map (fun i => (i.zero, i.size, i.bytes)) = some (some .nilFunc, 1, 8) := by kernel_rfl
@[push_cast] theorem al104 (K : Value → World → Prop) (w : World) : vAlloc Tryz.prog 104 K w = K (.pointer (some ⟨w.heap.size, 0, none⟩)) (w.alloc (.cells #[.nilFunc] 104)) := vAlloc_ok ti104 K w
@[push_cast] theorem one104 : oneD (Tryz.prog.underlying 104) = true := by kernel_rfl
@[push_cast] theorem sz118 : szOf Tryz.prog 118 = some 1 := by kernel_rfl
theorem ti118 : (Tryz.prog.info? 118).map (fun i => (i.zero, i.size, i.bytes)) = some (some .nilFunc, 1, 8) := by kernel_rfl
@[push_cast] theorem al118 (K : Value → World → Prop) (w : World) : vAlloc Tryz.prog 118 K w = K (.pointer (some ⟨w.heap.size, 0, none⟩)) (w.alloc (.cells #[.nilFunc] 118)) := vAlloc_ok ti118 K w
@[push_cast] theorem one118 : oneD (Tryz.prog.underlying 118) = true := by kernel_rfl
@[push_cast] theorem sz119 : szOf Tryz.prog 119 = some 4 := by kernel_rfl
theorem ti119 : (Tryz.prog.info? 119).map (fun i => (i.zero, i.size, i.bytes)) = some (some (.agg #[.nilFunc, .nilFunc, .nilFunc, .nilFunc]), 4, 32) := by kernel_rfl
@[push_cast] theorem al119 (K : Value → World → Prop) (w : World) : vAlloc Tryz.prog 119 K w = K (.pointer (some ⟨w.heap.size, 0, none⟩)) (w.alloc (.cells #[.nilFunc, .nilFunc, .nilFunc, .nilFunc] 119)) := vAlloc_ok ti119 K w
attribute [push_cast] Tryz.underlying119
@[push_cast] theorem sz123 : szOf Tryz.prog 123 = some 1 := by kernel_rfl
theorem ti123 : (Tryz.prog.info? 123).map (fun i => (i.zero, i.size, i.bytes)) = some (some .nilFunc, 1, 8) := by kernel_rfl
@[push_cast] theorem al123 (K : Value → World → Prop) (w : World) : vAlloc Tryz.prog 123 K w = K (.pointer (some ⟨w.heap.size, 0, none⟩)) (w.alloc (.cells #[.nilFunc] 123)) := vAlloc_ok ti123 K w
@[push_cast] theorem one123 : oneD (Tryz.prog.underlying 123) = true := by kernel_rfl
@[push_cast] theorem sz124 : szOf Tryz.prog 124 = some 1 := by kernel_rfl
theorem ti124 : (Tryz.prog.info? 124).map (fun i => (i.zero, i.size, i.bytes)) = some (some .nilFunc, 1, 8) := by kernel_rfl
@[push_cast] theorem al124 (K : Value → World → Prop) (w : World) : vAlloc Tryz.prog 124 K w = K (.pointer (some ⟨w.heap.size, 0, none⟩)) (w.alloc (.cells #[.nilFunc] 124)) := vAlloc_ok ti124 K w
@[push_cast] theorem one124 : oneD (Tryz.prog.underlying 124) = true := by kernel_rfl
@[push_cast] theorem sz142 : szOf Tryz.prog 142 = some 1 := by kernel_rfl
theorem ti142 : (Tryz.prog.info? 142).map (fun i => (i.zero, i.size, i.bytes)) = some (some .nilFunc, 1, 8) := by kernel_rfl
@[push_cast] theorem al142 (K : Value → World → Prop) (w : World) : vAlloc Tryz.prog 142 K w = K (.pointer (some ⟨w.heap.size, 0, none⟩)) (w.alloc (.cells #[.nilFunc] 142)) := vAlloc_ok ti142 K w
@[push_cast] theorem one142 : oneD (Tryz.prog.underlying 142) = true := by kernel_rfl
@[push_cast] theorem sz150 : szOf Tryz.prog 150 = some 1 := by kernel_rfl
theorem ti150 : (Tryz.prog.info? 150).map (fun i => (i.zero, i.size, i.bytes)) = some (some (.int .u64 0), 1, 8) := by kernel_rfl
@[push_cast] theorem al150 (K : Value → World → Prop) (w : World) : vAlloc Tryz.prog 150 K w = K (.pointer (some ⟨w.heap.size, 0, none⟩)) (w.alloc (.cells #[(.int .u64 0)] 150)) := vAlloc_ok ti150 K w
attribute [push_cast] Tryz.underlying150
end Go.Proofs.YtnofalhkapmcnaaGreat
end
