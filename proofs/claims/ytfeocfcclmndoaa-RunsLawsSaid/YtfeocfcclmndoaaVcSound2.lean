/- The soundness of the generator of verification conditions: memory, calls, regions, code. -/
import Derived.Test.YtfeocfcclmndoaaVcSound
namespace Go.Vc
open Go.RowKit Go.Sort
section ops
variable {P : Program} {σ : Env} {w : World} {K : Value → World → Prop}

theorem info_of_underlying {t : TypeId} {d : TypeDesc} (h : P.underlying t = some d) : ∃ i, P.info? t = some i := by
  unfold Program.underlying at h
  split at h
  · exact ⟨_, by assumption⟩
  · exact ⟨_, by assumption⟩
  · cases h
theorem run_sizeOf {t : TypeId} {s : Nat} (h : szOf P t = some s) (w : World) : (sizeOf t).run P w = .ok s w := by
  obtain ⟨i, hi, rfl⟩ := Option.map_eq_some_iff.1 h
  simp [sizeOf, typeInfo, hi]
theorem run_isAgg {t : TypeId} (h : oneD (P.underlying t) = true) (w : World) : (isAgg t).run P w = .ok false w := by
  cases hu : P.underlying t with
  | none => rw [hu] at h; cases h
  | some d =>
    rw [hu] at h
    simp [isAgg, run_underlying hu]
    cases d <;> simp_all [oneD]
theorem run_isAgg_yes {t : TypeId} {n : Nat} (h : aggD P t (P.underlying t) = some n) (w : World) : (isAgg t).run P w = .ok true w ∧ szOf P t = some n := by
  cases hu : P.underlying t with
  | none => rw [hu] at h; cases h
  | some d =>
    rw [hu] at h
    cases d <;> simp_all [aggD, isAgg, run_underlying hu]
theorem run_loadCellsFrom (n : Nat) : ∀ (a : Addr) (i : Nat) (acc : Array Value) (w : World) (cs : List Value), cellsAt w (a.add i) n = some cs → (loadCellsFrom a i n acc).run P w = .ok (acc ++ cs.toArray) w := by
  induction n with
  | zero => intro a i acc w cs h; simp [cellsAt] at h; subst h; simp [loadCellsFrom]
  | succ n ih =>
    intro a i acc w cs h
    unfold cellsAt at h
    split at h
    · rename_i v hv
      split at h
      · rename_i l hl
        cases h
        have e : (a.add i).add 1 = a.add (i + 1) := by
          unfold Addr.add
          by_cases h1 : i = 0 <;> simp [h1, Nat.add_assoc]
        rw [e] at hl
        simp only [loadCellsFrom, Sem.run_bind, run_load, hv, Result.andThen_ok]
        rw [ih a (i + 1) (acc.push v) w l hl]
        simp
      · cases h
    · cases h
theorem run_loadCells' {a : Addr} {n : Nat} {cs : List Value} {w : World} (h : cellsAt w a n = some cs) : (loadCells a n).run P w = .ok cs.toArray w := by
  unfold loadCells
  have : a.add 0 = a := rfl
  rw [run_loadCellsFrom n a 0 #[] w cs (by rw [this]; exact h)]
  simp
theorem vLoadA_sound (t : TypeId) (a : Value) (h : vLoadA P t (aggD P t (P.underlying t)) a K w) : vcUp P K ((val (Instr.loadAt t a)).run P w) := by
  unfold vLoadA at h
  split at h
  · rename_i n a hn
    obtain ⟨cs, hcs, hk⟩ := h
    obtain ⟨h1, h2⟩ := run_isAgg_yes hn w
    rw [run_val_pure (v := .agg cs.toArray) (w' := w) (by simp [Instr.loadAt, Instr.sureAddr, loadVar, h1, run_sizeOf h2, run_loadCells' hcs])]
    exact hk
  · exact h
theorem vLoad_sound (t : TypeId) (a : Value) (h : vLoad P t a K w) : vcUp P K ((val (Instr.loadAt t a)).run P w) := by
  unfold vLoad vLoadD at h
  split at h
  · rename_i ha
    obtain ⟨v, hv, hk⟩ := h
    rw [run_val_pure (v := v) (w' := w) (by simp [Instr.loadAt, Instr.sureAddr, loadVar, run_isAgg ha, hv])]
    exact hk
  · exact vLoadA_sound _ _ h
theorem cell_set_same {w : World} {a : Addr} {x : Value} (v : Value) (h : w.cell? a = some x) : (w.setCell a v).cell? a = some v := World.cell?_setCell_same _ _ _ h
theorem cell_set_ne {w : World} {a b : Addr} (v : Value) (h : b ≠ a) : (w.setCell b v).cell? a = w.cell? a := World.cell?_setCell_other _ _ _ _ h
theorem frozen_set {w : World} (a b : Addr) (v : Value) : (w.setCell b v).frozen? a = w.frozen? a := World.frozen?_setCell w b a v
theorem canAll_set {vs : List Value} : ∀ {w : World} {a b : Addr} {v : Value}, canAll w a vs → canAll (w.setCell b v) a vs := by
  induction vs with
  | nil => intro w a b v _; trivial
  | cons u vs ih =>
    intro w a b v h
    obtain ⟨⟨x, hx⟩, hf, hc⟩ := h
    refine ⟨?_, ?_, ih hc⟩
    · by_cases e : a = b
      · subst e; exact ⟨v, cell_set_same v hx⟩
      · exact ⟨x, by rw [cell_set_ne v fun h => e h.symm]; exact hx⟩
    · rw [frozen_set]; exact hf
theorem run_storeAll (vs : List Value) : ∀ (a : Addr) (i : Nat) (w : World), (∀ u ∈ vs, u.oneCell' = true) → canAll w (a.add i) vs → (storeCells a vs i).run P w = .ok () (storeAll w (a.add i) vs) := by
  induction vs with
  | nil => intro a i w _ _; simp [storeCells, storeAll]
  | cons v vs ih =>
    intro a i w h1 h
    obtain ⟨⟨x, hx⟩, hf, hc⟩ := h
    have e : (a.add i).add 1 = a.add (i + 1) := by
      unfold Addr.add
      by_cases h1 : i = 0 <;> simp [h1, Nat.add_assoc]
    rw [e] at hc
    have hv := h1 v (List.mem_cons_self ..)
    have hst : (store (a.add i) v).run P w = .ok () (w.setCell (a.add i) v) := by
      cases v <;> simp_all [store, Sem.run, Value.oneCell']
    simp only [storeCells, Sem.run_bind, hst, Result.andThen_ok]
    rw [ih a (i + 1) _ (fun u hu => h1 u (List.mem_cons_of_mem _ hu)) (canAll_set hc)]
    simp only [storeAll, e]
theorem vStore_sound (t : TypeId) (a x : Value) (h : vStore P t a x K w) : vcUp P K ((unt (Instr.storeAt t a x)).run P w) := by
  unfold vStore vStoreD at h
  split at h
  · rename_i s a hs
    obtain ⟨h1, h2, h3, h4⟩ := h
    have e : a.add 0 = a := rfl
    rw [run_unt (w' := storeAll w a x.cells.toList) (by
      simp only [Instr.storeAt, Instr.sureAddr, storeVar, Sem.run_bind, Sem.run_pure, Result.andThen_ok, run_sizeOf hs, h1]
      simp only [ne_eq, not_true_eq_false, if_false]
      exact run_storeAll _ a 0 w h2 h3)]
    exact h4
  · exact h
theorem vAlloc_sound (t : TypeId) (h : vAlloc P t K w) : vcUp P K ((val (Instr.alloc t true (.tuple #[]))).run P w) := by
  unfold vAlloc at h
  split at h
  · rename_i i hi
    split at h
    · rename_i z hz
      rw [run_val_pure (v := .pointer (some ⟨w.heap.size, 0, none⟩)) (w' := w.alloc (.cells z.cells t)) (by
        simp [Instr.alloc, zeroValue, typeInfo, hi, hz, newVar, newRow])]
      exact h
    · exact h.elim
  · exact h.elim
theorem run_box (t : TypeId) (v : Value) (w : World) : (Instr.box t v).run P w = .ok (.pointer (some ⟨w.heap.size, 0, none⟩)) (w.alloc (.cells v.cells t)) := by
  simp [Instr.box, newVar, newRow]
/-- A value that hangs on no world. -/
def Steady (P : Program) (s : Sem Value) (v : Value) : Prop := ∀ w', s.run P w' = .ok v w'
theorem Steady.up {s : Sem Value} {v : Value} (h : Steady P s v) (hk : K v w) : vcUp P K ((val s).run P w) := by
  rw [run_val_pure (h w)]; exact hk
theorem vAt_some {s : Option Nat} {a : Addr} {i : Int} {n : Nat} (h : vAt s a i n K w) : ∃ z, s = some z ∧ (0 ≤ i ∧ i < n) ∧ K (.pointer (some (a.add (i.toNat * z)))) w := by
  unfold vAt at h
  split at h
  · exact ⟨_, rfl, h⟩
  · exact h.elim
theorem steady_index_slice {t e : TypeId} {a : Addr} {n c z : Nat} {k : IntKind} {i : Int} (hu : P.underlying t = some (.slice e)) (hs : szOf P e = some z) (hi : 0 ≤ i ∧ i < n) :
    Steady P (Instr.indexAt t (.slice (some a) n c) (.int k i)) (.pointer (some (a.add (i.toNat * z)))) := fun w' => by
  simp [Instr.indexAt, asIntOf, run_underlying hu, hi, run_sizeOf hs]
theorem steady_index_array {t e : TypeId} {a : Addr} {n z : Nat} {k : IntKind} {i : Int} (hu : P.underlying t = some (.array n e)) (hs : szOf P e = some z) (hi : 0 ≤ i ∧ i < n) :
    Steady P (Instr.indexAt t (.pointer (some a)) (.int k i)) (.pointer (some (a.add (i.toNat * z)))) := fun w' => by
  simp [Instr.indexAt, asIntOf, Instr.sureAddr, run_underlying hu, hi, run_sizeOf hs]
theorem vIndexAddr_sound (t : TypeId) (x i : Value) (h : vIndexAddr P t x i K w) : vcUp P K ((val (Instr.indexAt t x i)).run P w) := by
  unfold vIndexAddr vIndexAddrD at h
  split at h
  · rename_i hu
    obtain ⟨z, hz, hi, hk⟩ := vAt_some h
    exact (steady_index_slice hu hz hi).up hk
  · rename_i hu
    obtain ⟨z, hz, hi, hk⟩ := vAt_some h
    exact (steady_index_array hu hz hi).up hk
  · exact h
theorem vFieldAddr_some {s : TypeId} {x : Value} {f : Nat} (h : vFieldAddr P s x f K w) : ∃ v, Steady P (Instr.fieldAt s x f) v ∧ K v w := by
  unfold vFieldAddr vFieldAddrD at h
  split at h
  · rename_i off t a hf
    unfold vFldZ at h
    split at h
    · rename_i z hz
      obtain ⟨h0, hk⟩ := h
      refine ⟨_, fun w' => ?_, hk⟩
      unfold fieldOf at hf
      split at hf
      · rename_i fs hu
        obtain ⟨fl, hfl, he⟩ := Option.map_eq_some_iff.1 hf
        simp only [Prod.mk.injEq] at he
        obtain ⟨rfl, rfl⟩ := he
        have h1 : ¬ z = 0 := by omega
        simp [Instr.fieldAt, run_underlying hu, hfl, Instr.sureAddr, fieldPlace, run_sizeOf hz, h1]
      · cases hf
    · exact h.elim
  · exact h.elim
theorem steady_sliceBound {v : Value} {k : IntKind} {i : Int} {y : Nat} {code : BoundsCode} (hv : v = .int k i) (h : 0 ≤ i ∧ i ≤ y) (w : World) : (Instr.sliceBound v y code).run P w = .ok i.toNat w := by
  subst hv; exact run_sliceBound w k i y code h.1 h.2
theorem intO_some {d n : Int} {v : Value} (h : intO d (some v) = some n) : ∃ k, v = .int k n := by
  unfold intO at h
  split at h <;> simp_all
theorem vSlice_some {t e : TypeId} {a : Option Addr} {n c : Nat} {lo hi mx : Option Value} (hu : P.underlying t = some (.slice e))
    (h : vSl (szOf P e) a (intO 0 lo) (intO n hi) (intO c mx) (hi.isNone && mx.isSome) c K w) : ∃ v, Steady P (Instr.sliceAt t (.slice a n c) lo hi mx) v ∧ K v w := by
  unfold vSl at h
  split at h
  · rename_i s lo' hi' mx' bad z l h' m hz hl hh hm hb
    obtain ⟨hr, hk⟩ := h
    refine ⟨_, fun w' => ?_, hk⟩
    simp only [Instr.sliceAt, Sem.run_bind, run_underlying hu, Result.andThen_ok, Instr.slice]
    have key : (Instr.sliceBounds true n c lo hi mx).run P w' = .ok (l.toNat, h'.toNat, m.toNat) w' := by
      unfold Instr.sliceBounds
      cases lo with
      | none =>
        simp only [intO, Option.some.injEq] at hl; subst hl
        cases mx with
        | none =>
          simp only [intO, Option.some.injEq] at hm; subst hm
          cases hi with
          | none => simp only [intO, Option.some.injEq] at hh; subst hh; simp
          | some v =>
            obtain ⟨k, rfl⟩ := intO_some hh
            simp [run_sliceBound w' k h' c .sliceAcap (by omega) (by omega)]
        | some vm =>
          obtain ⟨km, rfl⟩ := intO_some hm
          cases hi with
          | none => simp at hb
          | some v =>
            obtain ⟨k, rfl⟩ := intO_some hh
            simp [run_sliceBound w' km m c .slice3Acap (by omega) (by omega), run_sliceBound w' k h' m.toNat .slice3B (by omega) (by omega)]
      | some vl =>
        obtain ⟨kl, rfl⟩ := intO_some hl
        cases mx with
        | none =>
          simp only [intO, Option.some.injEq] at hm; subst hm
          cases hi with
          | none =>
            simp only [intO, Option.some.injEq] at hh; subst hh
            simp [run_sliceBound w' kl l n .sliceB (by omega) (by omega)]
          | some v =>
            obtain ⟨k, rfl⟩ := intO_some hh
            simp [run_sliceBound w' k h' c .sliceAcap (by omega) (by omega), run_sliceBound w' kl l h'.toNat .sliceB (by omega) (by omega)]
        | some vm =>
          obtain ⟨km, rfl⟩ := intO_some hm
          cases hi with
          | none => simp at hb
          | some v =>
            obtain ⟨k, rfl⟩ := intO_some hh
            simp [run_sliceBound w' km m c .slice3Acap (by omega) (by omega), run_sliceBound w' k h' m.toNat .slice3B (by omega) (by omega), run_sliceBound w' kl l h'.toNat .slice3C (by omega) (by omega)]
    simp only [key, Result.andThen_ok, run_sizeOf hz, Sem.run_pure]
    have e1 : (m.toNat = l.toNat) = (m = l) := by rw [eq_iff_iff]; omega
    have e2 : (h' - l).toNat = h'.toNat - l.toNat := by omega
    have e3 : (m - l).toNat = m.toNat - l.toNat := by omega
    simp only [slAddr, e1, e2, e3]
  · exact h.elim
theorem vSub_some {t : TypeId} {s : ByteArray} {lo hi mx : Option Value} (hu : P.underlying t = some .string)
    (h : vSub s (intO 0 lo) (intO s.size hi) mx.isSome K w) : ∃ v, Steady P (Instr.sliceAt t (.string s) lo hi mx) v ∧ K v w := by
  unfold vSub at h
  split at h
  · rename_i lo' hi' bad l h' hl hh hb
    obtain ⟨hr, hk⟩ := h
    refine ⟨_, fun w' => ?_, hk⟩
    obtain rfl : mx = none := by simpa using hb
    simp only [Instr.sliceAt, Sem.run_bind, run_underlying hu, Result.andThen_ok, Instr.slice]
    have key : (Instr.sliceBounds false s.size s.size lo hi none).run P w' = .ok (l.toNat, h'.toNat, s.size) w' := by
      unfold Instr.sliceBounds
      cases lo with
      | none =>
        simp only [intO, Option.some.injEq] at hl; subst hl
        cases hi with
        | none => simp only [intO, Option.some.injEq] at hh; subst hh; simp
        | some v =>
          obtain ⟨k, rfl⟩ := intO_some hh
          simp [run_sliceBound w' k h' s.size .sliceAlen (by omega) (by omega)]
      | some vl =>
        obtain ⟨kl, rfl⟩ := intO_some hl
        cases hi with
        | none =>
          simp only [intO, Option.some.injEq] at hh; subst hh
          simp [run_sliceBound w' kl l s.size .sliceB (by omega) (by omega)]
        | some v =>
          obtain ⟨k, rfl⟩ := intO_some hh
          simp [run_sliceBound w' k h' s.size .sliceAlen (by omega) (by omega), run_sliceBound w' kl l h'.toNat .sliceB (by omega) (by omega)]
    simp [key]
  · exact h.elim
theorem vSlice_sound (t : TypeId) (x : Value) (lo hi mx : Option Value) (h : vSlice P t x lo hi mx K w) : vcUp P K ((val (Instr.sliceAt t x lo hi mx)).run P w) := by
  unfold vSlice vSliceD at h
  split at h
  · rename_i hu
    obtain ⟨v, hs, hk⟩ := vSlice_some hu h
    exact hs.up hk
  · rename_i hu
    obtain ⟨v, hs, hk⟩ := vSub_some hu h
    exact hs.up hk
  · exact h
end ops
end Go.Vc
