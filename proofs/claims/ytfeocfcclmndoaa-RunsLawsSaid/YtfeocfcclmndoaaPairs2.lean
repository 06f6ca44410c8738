/- Stretches of a call's own: one more behind them; the last one's end written anew. -/
import Derived.Test.YtfeocfcclmndoaaInts
namespace Go.Vc
open Go.RowKit
/-- One stretch behind stretches of the call's own (the literal's row lies anywhere). -/
theorem vAppend_p {P : Program} {w : World} {K : Value → World → Prop} {t e ty : TypeId} {z : Value} {b : Nat} (ht : P.underlying t = some (.slice e)) (hi : (P.info? e).map (fun i => (i.zero, i.size, i.bytes)) = some (some z, 2, b)) (hzs : z.cells.size = 2)
    {B : Nat} {v x : Value} {l : List (Int × Int)} {p q : Int} (hown : OwnP w B e v l) (hx : SlN w 2 x 1 [.int .i64 p, .int .i64 q]) (h63 : l.length + 1 ≤ 1000000000) (hb : b ≤ 1000) (hbase : B ≤ w.heap.size)
    (hK : ∀ v' w', OwnP w' B e v' (l ++ [(p, q)]) → w.grownBy w' v.ownBlock → (v'.ownBlock = v.ownBlock ∨ v'.ownBlock = some w.heap.size) → K v' w') : vAppend P #[t, t] ty #[v, x] K w := by
  refine vAppend_at ht hi hzs (by omega) hown hx ?_ (by unfold maxLen; omega) ?_ hbase ?_
  · intro u hu
    simp only [List.mem_cons, List.not_mem_nil, or_false] at hu
    rcases hu with rfl | rfl <;> rfl
  · have : (l.length + 1) * b ≤ 1000000000 * 1000 := Nat.mul_le_mul h63 hb
    omega
  · intro v' w' ho hg hs
    refine hK v' w' ?_ hg hs
    unfold OwnP
    simpa [pairC] using ho
theorem pairs_flat_len (l : List (Int × Int)) : (l.map pairC).flatten.length = l.length * 2 := by
  induction l with
  | nil => rfl
  | cons p l ih => simp only [List.map_cons, List.flatten_cons, List.length_append, ih, List.length_cons]; simp [pairC]; omega
/-- One cell of what a call owns, written. -/
theorem own_setN {w : World} {base n s : Nat} {e : TypeId} {a : Addr} {c m i : Nat} {xs : List Value} (h : w.ownsRow base e s (.slice (some a) m c) n xs) (hi : i < n * s) (v : Value) :
    ∃ k, a = ⟨k, 0, none⟩ ∧ base ≤ k ∧ k < w.heap.size ∧ (w.setCell ⟨k, i, none⟩ v).ownsRow base e s (.slice (some ⟨k, 0, none⟩) m c) n (xs.set i v) ∧ (∃ y, w.cell? ⟨k, i, none⟩ = some y) ∧ w.frozen? ⟨k, i, none⟩ = false ∧ Blk w k (match w.heap[k]? with | some (.cells cs _ _) => cs | _ => #[]) e := by
  obtain ⟨h0, h⟩ := h
  rcases h with ⟨h, _⟩ | ⟨g, cap, cur, hv, hb, hh, h1, h2, h3, h4⟩
  · cases h
  · simp only [Value.slice.injEq, Option.some.injEq] at hv
    obtain ⟨rfl, rfl, rfl⟩ := hv
    have hB : Blk w g cur e := hh
    have hsz : cur.size = c * s := by simpa using h3
    have hms : m * s ≤ c * s := Nat.mul_le_mul_right _ h1
    refine ⟨g, rfl, hb, hB.lt, ⟨by simpa using h0, .inr ⟨g, c, cur.setIfInBounds i v, rfl, hb, hB.set i v, h1, h2, by simpa using h3, ?_⟩⟩, ?_, hB.frozen i, ?_⟩
    · rw [← h4]; simp [List.take_set]
    · rw [hB.cell]; exact ⟨cur[i], Array.getElem?_eq_getElem (by omega)⟩
    · rw [hh]; exact hh
theorem set_last (t : List (Int × Int)) (p q y : Int) : (((t ++ [(p, q)]).map pairC).flatten).set (t.length * 2 + 1) (.int .i64 y) = ((t ++ [(p, y)]).map pairC).flatten := by
  rw [List.map_append, List.map_append, List.flatten_append, List.flatten_append, List.set_append_right _ _ (by rw [pairs_flat_len]; omega), pairs_flat_len]
  have e : t.length * 2 + 1 - t.length * 2 = 1 := by omega
  rw [e]; rfl
/-- The last stretch's end, written anew. -/
theorem OwnP.setTo {w : World} {B : Nat} {e : TypeId} {a : Addr} {c n : Nat} {t : List (Int × Int)} {p q : Int} (h : OwnP w B e (.slice (some a) n c) (t ++ [(p, q)])) (y : Int) :
    ∃ k, (.slice (some a) n c : Value).ownBlock = some k ∧ B ≤ k ∧ k < w.heap.size ∧ (a.add (t.length * 2)).add 1 = ⟨k, t.length * 2 + 1, none⟩ ∧ OwnP (w.setCell ⟨k, t.length * 2 + 1, none⟩ (.int .i64 y)) B e (.slice (some a) n c) (t ++ [(p, y)]) ∧ (∃ z, w.cell? ⟨k, t.length * 2 + 1, none⟩ = some z) ∧ w.frozen? ⟨k, t.length * 2 + 1, none⟩ = false ∧ Chg w (w.setCell ⟨k, t.length * 2 + 1, none⟩ (.int .i64 y)) [k] := by
  unfold OwnP at h
  obtain ⟨k, rfl, h1, h2, h3, h4, h5, _⟩ := own_setN (i := t.length * 2 + 1) h (by simp; omega) (.int .i64 y)
  refine ⟨k, rfl, h1, h2, ?_, ?_, h4, h5, chg_setCell w (by simp) _⟩
  · rw [addr_add_eq, addr_add_eq, Nat.zero_add]
  · rw [set_last] at h3
    unfold OwnP
    simpa using h3
theorem OwnP.pair {w : World} {B : Nat} {e : TypeId} {v : Value} {l : List (Int × Int)} (h : OwnP w B e v l) : PairS w v l := h.s
/-- A literal's row of one stretch. -/
theorem SlN.of_blk2 {w : World} {b : Nat} {p q : Value} {e : TypeId} (h : Blk w b #[p, q] e) : SlN w 2 (.slice (some ⟨b, 0, none⟩) 1 1) 1 [p, q] := by
  refine SlN.mk rfl (Nat.le_refl _) (by unfold maxLen; omega) (fun h => by cases h) ?_
  intro a ha i x hx
  simp only [Option.some.injEq] at ha
  subst ha
  rw [addr_add_eq, Nat.zero_add, h.cell]
  simpa using hx
/-- A struct put together: it has one value in whatever world. -/
theorem qX_build {P : Program} {σ : Env} {ty t : TypeId} {ps : Array (Nat × Operand)} {u : Value} {w : World} {K : Value → Prop} (h : ∀ w', vBuild P t (ps.map fun (i, x) => (i, ev σ x)) (fun v w'' => v = u ∧ w'' = w') w') (hk : K u) : qX P (.build t ps) ty σ w K := by
  refine pure_of_up (s := Instr.build t (ps.map fun (i, x) => (i, ev σ x))) (fun w' => by unfold exe; simp only [execOp]; rfl) ⟨u, fun w' => ?_, hk⟩
  have h1 := h w'
  unfold vBuild at h1
  have e : (val (Instr.build t (ps.map fun (i, x) => (i, ev σ x)))).run P w' = ((Instr.build t (ps.map fun (i, x) => (i, ev σ x))).run P w').andThen fun v w' => .ok (.value v) w' := by simp [val]
  rw [e] at h1
  cases hs : (Instr.build t (ps.map fun (i, x) => (i, ev σ x))).run P w' with
  | ok v w'' =>
    rw [hs] at h1
    obtain ⟨rfl, rfl⟩ := h1
    rfl
  | halt => rw [hs] at h1; exact h1.elim
theorem nP_build {P : Program} {σ : Env} {ty t : TypeId} {ps : Array (Nat × Operand)} (u : Value) {w : World} {Kv : Value → Prop} {Kn : (Value → World → Prop) → Prop} (h : ∀ w', vBuild P t (ps.map fun (i, x) => (i, ev σ x)) (fun v w'' => v = u ∧ w'' = w') w') (hk : Kv u) : nPlain P (.build t ps) ty σ w Kv Kn := qX_build h hk
/-- The first k. -/
theorem SlN.preN {w : World} {s n c : Nat} {o : Option Addr} {xs : List Value} (h : SlN w s (.slice o n c) n xs) {k : Nat} (hk : k ≤ n) : SlN w s (.slice o k c) k (xs.take (k * s)) := by
  obtain ⟨_, hc, hm, hl, _⟩ := h.len
  have hs := h.part (l := 0) (k := (k : Int)) (m := (c : Int)) (by omega) (by omega) (by omega) (by omega) (by omega)
  simp only [Int.sub_zero, Int.toNat_zero, Nat.zero_mul, List.drop_zero, Int.toNat_natCast] at hs
  unfold slAddr at hs
  split at hs
  · exact hs
  · cases o with
    | none => exact hs
    | some a => simpa [addr_add_zero] using hs
theorem flat_take (l : List (Int × Int)) : ∀ k : Nat, (l.map pairC).flatten.take (k * 2) = ((l.take k).map pairC).flatten := by
  induction l with
  | nil => intro k; simp
  | cons p l ih =>
    intro k
    cases k with
    | zero => simp
    | succ k =>
      have e : (k + 1) * 2 = k * 2 + 2 := by omega
      rw [e, List.map_cons, List.flatten_cons, List.take_succ_cons, List.map_cons, List.flatten_cons, ← ih k]
      show (pairC p ++ (l.map pairC).flatten).take (k * 2 + 2) = _
      have e2 : (pairC p).length = 2 := rfl
      rw [List.take_append, e2]
      simp [pairC]
theorem PairS.pre {w : World} {o : Option Addr} {n c : Nat} {l : List (Int × Int)} (h : PairS w (.slice o n c) l) {k : Nat} (hk : k ≤ l.length) : PairS w (.slice o k c) (l.take k) := by
  unfold PairS at h ⊢
  obtain ⟨e, _⟩ := h.len
  subst e
  have := SlN.preN h hk
  rw [flat_take] at this
  rw [List.length_take, Nat.min_eq_left hk]
  exact this
end Go.Vc
