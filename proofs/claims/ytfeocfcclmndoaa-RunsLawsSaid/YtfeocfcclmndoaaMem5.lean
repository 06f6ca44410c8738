/- Lists of lists of bytes. -/
import Derived.Test.YtfeocfcclmndoaaMem4
import Derived.Lib.SlBytesConst
namespace Go.Vc
open Go.RowKit
/-- Two rows of different types lie in different blocks: what grows one leaves the other. -/
theorem own_grown_ty {w w' : World} {base base' s s' n n' : Nat} {e e' : TypeId} {v v' : Value} {xs xs' : List Value} (h : w.ownsRow base e s v n xs) (hc : w.ownsRow base' e' s' v' n' xs') (hne : e ≠ e') (g : w.grownBy w' v'.ownBlock) : w'.ownsRow base e s v n xs := by
  obtain ⟨h0, h⟩ := h
  refine ⟨h0, ?_⟩
  rcases h with h | ⟨b, cap, cur, hv, hb, hh, h3⟩
  · exact .inl h
  · refine .inr ⟨b, cap, cur, hv, hb, ?_, h3⟩
    rw [g.block b (Blk.lt hh) ?_]
    · exact hh
    · obtain ⟨_, hc⟩ := hc
      rcases hc with ⟨rfl, _⟩ | ⟨b', cap', cur', rfl, _, hh', _⟩
      · simp [Value.ownBlock]
      · simp only [Value.ownBlock]
        intro he
        simp only [Option.some.injEq] at he
        subst he
        rw [hh] at hh'
        simp only [Option.some.injEq, Obj.cells.injEq] at hh'
        exact hne hh'.2.1
/-- Lists of bytes, read. -/
def LL (w : World) (v : Value) (ls : List (List UInt8)) : Prop := ∃ vs, Sl w v vs ∧ vs.length = ls.length ∧ ∀ (i : Nat) (x : Value) (l : List UInt8), vs[i]? = some x → ls[i]? = some l → Sl w x (l.map u8v)
theorem LL.later {w w' : World} {v : Value} {ls : List (List UInt8)} (h : LL w v ls) (hl : Later w w') : LL w' v ls := by
  obtain ⟨vs, h1, h2, h3⟩ := h
  exact ⟨vs, h1.later hl, h2, fun i x l hx hl' => (h3 i x l hx hl').later hl⟩
theorem LL.slice {w : World} {v : Value} {ls : List (List UInt8)} (h : LL w v ls) : ∃ o c, v = .slice o ls.length c ∧ ls.length ≤ c ∧ c ≤ 9223372036854775807 := by
  obtain ⟨vs, h1, h2, h3⟩ := h
  obtain ⟨o, c, hv, h4, h5, _⟩ := h1.open
  exact ⟨o, c, by rw [← h2]; exact hv, by omega, by unfold maxLen at h5; omega⟩
/-- One of them. -/
theorem LL.at {w : World} {o : Option Addr} {n c : Nat} {ls : List (List UInt8)} (h : LL w (.slice o n c) ls) {i : Nat} (hi : i < ls.length) : ∃ a x, o = some a ∧ w.cell? (a.add i) = some x ∧ Sl w x (ls[i].map u8v) := by
  obtain ⟨vs, h1, h2, h3⟩ := h
  have hv : vs[i]? = some (vs[i]'(by omega)) := List.getElem?_eq_getElem (by omega)
  cases o with
  | none => have := (h1.len.2.2.2 rfl).1; subst this; simp at h2; omega
  | some a => exact ⟨a, vs[i]'(by omega), rfl, h1.at hv, h3 i _ _ hv (List.getElem?_eq_getElem hi)⟩
theorem LL.pre {w : World} {o : Option Addr} {n c : Nat} {ls : List (List UInt8)} (h : LL w (.slice o n c) ls) {k : Nat} (hk : k ≤ n) : LL w (.slice o k c) (ls.take k) := by
  obtain ⟨vs, h1, h2, h3⟩ := h
  have hn := h1.len.1
  refine ⟨vs.take k, h1.pre hk, by simp; omega, fun i x l hx hl => ?_⟩
  rw [List.getElem?_take] at hx hl
  split at hx
  · rename_i hi; rw [if_pos hi] at hl; exact h3 i x l hx hl
  · cases hx
theorem LL.nil (w : World) : LL w (.slice none 0 0) [] := ⟨[], Sl.nil w, rfl, fun i x l hx _ => by simp at hx⟩
/-- Lists of bytes whose row the call owns; each of them is as Q says. -/
def LLo (Q : World → Value → List UInt8 → Prop) (w : World) (B : Nat) (e : TypeId) (v : Value) (ls : List (List UInt8)) : Prop :=
  ∃ vs, w.ownsRow B e 1 v ls.length vs ∧ ∀ (i : Nat) (x : Value) (l : List UInt8), vs[i]? = some x → ls[i]? = some l → Q w x l
theorem LLo.len {Q : World → Value → List UInt8 → Prop} {w : World} {B : Nat} {e : TypeId} {v : Value} {ls : List (List UInt8)} (h : LLo Q w B e v ls) : ∃ o c, v = .slice o ls.length c := by
  obtain ⟨vs, h1, _⟩ := h
  have hn := own_n h1
  obtain ⟨o, c, hv, _⟩ := (Sl.of_own h1).open
  exact ⟨o, c, by rw [hn]; exact hv⟩
theorem LLo.ll {Q : World → Value → List UInt8 → Prop} {w : World} {B : Nat} {e : TypeId} {v : Value} {ls : List (List UInt8)} (h : LLo Q w B e v ls) (hQ : ∀ x l, Q w x l → Sl w x (l.map u8v)) : LL w v ls := by
  obtain ⟨vs, h1, h2⟩ := h
  exact ⟨vs, Sl.of_own h1, (own_n h1).symm, fun i x l hx hl => hQ _ _ (h2 i x l hx hl)⟩
theorem LLo.nil (Q : World → Value → List UInt8 → Prop) (w : World) (B : Nat) (e : TypeId) : LLo Q w B e (.slice none 0 0) [] := ⟨[], own_nil _ _ _ _, fun i x l hx _ => by simp at hx⟩
theorem LLo.mono {Q Q' : World → Value → List UInt8 → Prop} {w w' : World} {B : Nat} {e : TypeId} {v : Value} {ls : List (List UInt8)} (h : LLo Q w B e v ls) (hl : Later w w') (hQ : ∀ x l, Q w x l → Q' w' x l) : LLo Q' w' B e v ls := by
  obtain ⟨vs, h1, h2⟩ := h
  exact ⟨vs, own_later h1 hl, fun i x l hx hl => hQ _ _ (h2 i x l hx hl)⟩
/-- One more. -/
theorem LLo.snoc {P : Program} {Q : World → Value → List UInt8 → Prop} {w : World} {K : Value → World → Prop} {t e ty : TypeId} {z : Value} {b B : Nat} (ht : P.underlying t = some (.slice e)) (hi : (P.info? e).map (fun i => (i.zero, i.size, i.bytes)) = some (some z, 1, b)) (hzs : z.cells.size = 1)
    {v x : Value} {ls : List (List UInt8)} {l : List UInt8} (h : LLo Q w B e v ls) (hx : Q w x l) (h1 : x.oneCell' = true) (h63 : ls.length + 1 ≤ maxLen) (hb : (ls.length + 1) * b ≤ 140737488355328) (hbase : B ≤ w.heap.size)
    (hQ : ∀ w' vs, (w.alloc (.cells #[x] e)).ownsRow B e 1 v ls.length vs → (w.alloc (.cells #[x] e)).grownBy w' v.ownBlock → ∀ y m, Q w y m → Q w' y m)
    (hK : ∀ v' w', LLo Q w' B e v' (ls ++ [l]) → (∀ w0, Later w0 w → w0.heap.size ≤ B → Later w0 w') → K v' w') : vAppend P #[t, t] ty #[v, .slice (some ⟨w.heap.size, 0, none⟩) 1 1] K (w.alloc (.cells #[x] e)) := by
  obtain ⟨vs, ho, hq⟩ := h
  have hn := own_n ho
  refine vAppend_own ht hi hzs (by omega) (own_alloc ho _) (Sl.one w x e) (by simpa using h1) h63 hb (by simp; omega) ?_
  intro v' w' ho' hg _
  refine hK v' w' ⟨vs ++ [x], by simpa using ho', fun i y m hy hm => ?_⟩ fun w0 hl hb => (hl.alloc _).appended (own_alloc ho _) hb hg
  refine hQ w' vs (own_alloc ho _) hg y m ?_
  by_cases hi' : i < vs.length
  · rw [List.getElem?_append_left hi'] at hy
    rw [List.getElem?_append_left (by omega)] at hm
    exact hq i y m hy hm
  · rw [List.getElem?_append_right (by omega)] at hy
    rw [List.getElem?_append_right (by omega)] at hm
    have e1 : i - vs.length = 0 := by
      by_cases h0 : i - vs.length = 0
      · exact h0
      · rw [List.getElem?_eq_none (by simp; omega)] at hy; cases hy
    have e2 : i - ls.length = 0 := by omega
    rw [e1] at hy
    rw [e2] at hm
    simp only [List.getElem?_cons_zero, Option.some.injEq] at hy hm
    subst hy hm; exact hx
/-- A constant's bytes: a literal's row, marked. -/
theorem vConv_const {P : Program} {w : World} {K : Value → World → Prop} {t e : TypeId} {C : Array Value} {n c : Nat} (ht : P.underlying t = some (.slice e)) (he : P.underlying e = some (.int .u8))
    (hk : K (.slice (some ⟨w.heap.size, 0, none⟩) n c) (w.alloc (.cells C e (C.size, C.size + 1)))) : vConvD P t t (some (.slice e)) (some (.slice e)) (.slice (some ⟨w.heap.size, 0, none⟩) n c) K (w.alloc (.cells C e)) := by
  show vcUp P K ((val (convert t t (.slice (some ⟨w.heap.size, 0, none⟩) n c))).run P (w.alloc (.cells C e)))
  rw [run_val_pure (Lib.run_convert_bytes_const w t e C n c ht he)]; exact hk
theorem Sl.litM (w : World) (l : List Value) (e : TypeId) (f : Nat × Nat) (hn : l.length ≤ maxLen) : Sl (w.alloc (.cells l.toArray e f)) (.slice (Option.some ⟨w.heap.size, 0, none⟩) l.length l.length) l := by
  refine SlN.mk (by simp) (Nat.le_refl _) hn (fun h => by cases h) ?_
  intro a ha i x hx
  simp only [Option.some.injEq] at ha
  subst ha
  rw [addr_add_eq, Nat.zero_add]
  have : (w.alloc (.cells l.toArray e f)).heap[w.heap.size]? = Option.some (.cells l.toArray e f) := heap_new w _
  simp only [World.cell?, this]
  simpa using hx
end Go.Vc
