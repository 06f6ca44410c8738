/- The soundness of the generator of verification conditions: calls, regions, code. -/
import Derived.Test.YtfeocfcclmndoaaVcSound2
namespace Go.Vc
open Go.RowKit Go.Sort
section ops
variable {P : Program} {σ : Env} {w : World} {K : Value → World → Prop}

theorem exe_val (op : Op) (ty : TypeId) (s : Sem Value) (he : ∀ ρ : Operand → Value, ρ = ev σ → execOp ρ { dst := none, op, type := ty, pos := "", after := #[], guard := none } = val s)
    (h : vcUp P K ((val s).run P w)) : vX P op ty σ w K := by
  unfold vX exe; rw [he _ rfl]; exact h

theorem vCallV_sound (c : Call) (ty : TypeId) (f : Operand) (hc : c.callee = .value f) (h : vCallV P (ev σ f) (c.args.map (ev σ)) K w (vX P (.call c) ty σ w K)) : vX P (.call c) ty σ w K := by
  unfold vCallV at h
  split at h
  · rename_i g first captured hf
    unfold vX exe
    have : execOp (ev σ) { dst := none, op := .call c, type := ty, pos := "", after := #[], guard := none } = callFunc g (first ++ c.args.map (ev σ) ++ captured) := by
      simp only [execOp, resolve, hc, hf, Deferred.ofValue]
      rfl
    rw [this]; exact h
  · rename_i l first captured hf
    unfold vX exe
    have : execOp (ev σ) { dst := none, op := .call c, type := ty, pos := "", after := #[], guard := none } = Instr.yield l (first ++ c.args.map (ev σ)) := by
      simp only [execOp, resolve, hc, hf, Deferred.ofValue]
      rfl
    rw [this]; exact h
  · exact h
theorem run_maxmin (op : Builtin) (c : Call) (hc : c.callee = .builtin op) (ρ : Operand → Value) (ty : TypeId) :
    execOp ρ { dst := none, op := .call c, type := ty, pos := "", after := #[], guard := none } = builtin op c.argTypes ty (c.args.map fun | .const _ => true | _ => false) (c.args.map ρ) := by
  simp only [execOp, resolve, hc]
  rfl
theorem steady_len {ts : Array TypeId} {as : Array Value} {t : TypeId} {x : Value} {tr : List TypeId} {ar : List Value} {ty : TypeId} (ht : ts.toList = t :: tr) (ha : as.toList = x :: ar)
    (h : vLen (P.underlying t) x K w) : ∃ v, Steady P (Builtin.len_ ts ty as) v ∧ K v w := by
  have e1 : ts[0]? = some t := by rw [← Array.getElem?_toList, ht]; rfl
  have e2 : as[0]? = some x := by rw [← Array.getElem?_toList, ha]; rfl
  unfold vLen at h
  split at h
  · rename_i hu
    exact ⟨_, fun w' => by simp [Builtin.len_, e1, e2, run_underlying hu, goInt], h⟩
  · rename_i hu
    exact ⟨_, fun w' => by simp [Builtin.len_, e1, e2, run_underlying hu, goInt], h⟩
  · exact h.elim
theorem steady_cap {ts : Array TypeId} {as : Array Value} {t : TypeId} {x : Value} {tr : List TypeId} {ar : List Value} {ty : TypeId} (ht : ts.toList = t :: tr) (ha : as.toList = x :: ar)
    (h : vCap (P.underlying t) x K w) : ∃ v, Steady P (Builtin.cap_ ts ty as) v ∧ K v w := by
  have e1 : ts[0]? = some t := by rw [← Array.getElem?_toList, ht]; rfl
  have e2 : as[0]? = some x := by rw [← Array.getElem?_toList, ha]; rfl
  unfold vCap at h
  split at h
  · rename_i hu
    exact ⟨_, fun w' => by simp [Builtin.cap_, e1, e2, run_underlying hu, goInt], h⟩
  · exact h.elim
theorem min_if (a b : Int) : (if b < a then b else a) = min a b := by simp only [Int.min_def]; split <;> split <;> omega
theorem max_if (a b : Int) : (if b > a then b else a) = max a b := by simp only [Int.max_def]; split <;> split <;> omega
theorem steady_min {ts : Array TypeId} {as : Array Value} {ty : TypeId} (h : vMin as.toList K w) : ∃ v, Steady P (Builtin.min_ ts ty as) v ∧ K v w := by
  unfold vMin at h
  split at h
  · rename_i k a k' b ha
    refine ⟨_, fun w' => ?_, h⟩
    have e : (if b < a then b else a) = min a b := by simp only [Int.min_def]; split <;> split <;> omega
    simp [Builtin.min_, ha, Builtin.min2, e]
  · rename_i k a k' b k'' c ha
    refine ⟨_, fun w' => ?_, h⟩
    simp [Builtin.min_, ha, Builtin.min2, min_if]
  · rename_i k a k' b k'' c k''' d ha
    refine ⟨_, fun w' => ?_, h⟩
    simp [Builtin.min_, ha, Builtin.min2, min_if]
  · exact h.elim
theorem steady_max {ts : Array TypeId} {as : Array Value} {ty : TypeId} (h : vMax as.toList K w) : ∃ v, Steady P (Builtin.max_ ts ty as) v ∧ K v w := by
  unfold vMax at h
  split at h
  · rename_i k a k' b ha
    refine ⟨_, fun w' => ?_, h⟩
    have e : (if b > a then b else a) = max a b := by simp only [Int.max_def]; split <;> split <;> omega
    simp only [Builtin.max_, ha, List.foldlM_cons, List.foldlM_nil, Builtin.max2, Sem.run_bind, Sem.run_pure, Result.andThen_ok, e]
  · rename_i k a k' b k'' c ha
    refine ⟨_, fun w' => ?_, h⟩
    simp only [Builtin.max_, ha, List.foldlM_cons, List.foldlM_nil, Builtin.max2, Sem.run_bind, Sem.run_pure, Result.andThen_ok, max_if]
  · rename_i k a k' b k'' c k''' d ha
    refine ⟨_, fun w' => ?_, h⟩
    simp only [Builtin.max_, ha, List.foldlM_cons, List.foldlM_nil, Builtin.max2, Sem.run_bind, Sem.run_pure, Result.andThen_ok, max_if]
  · exact h.elim
theorem vBi_some (b : Builtin) (c : Call) (hc : c.callee = .builtin b) (ty : TypeId) (h : vBi P b c.argTypes.toList (c.args.map (ev σ)).toList K w) :
    ∃ v, (∀ w', exe P (.call c) ty σ w' = .ok (.value v) w') ∧ K v w := by
  have lift {s : Sem Value} (hs : builtin b c.argTypes ty (c.args.map fun | .const _ => true | _ => false) (c.args.map (ev σ)) = val s) (h : ∃ v, Steady P s v ∧ K v w) :
      ∃ v, (∀ w', exe P (.call c) ty σ w' = .ok (.value v) w') ∧ K v w := by
    obtain ⟨v, hv, hk⟩ := h
    exact ⟨v, fun w' => by unfold exe; rw [run_maxmin b c hc, hs]; exact run_val_pure (hv w'), hk⟩
  unfold vBi at h
  split at h
  · rename_i ht ha
    exact lift rfl (steady_len ht ha h)
  · rename_i ht ha
    exact lift rfl (steady_cap ht ha h)
  · exact lift rfl (steady_min h)
  · exact lift rfl (steady_max h)
  · exact h.elim
theorem vCall_sound (c : Call) (ty : TypeId) (h : vCall P c ty σ K w) : vX P (.call c) ty σ w K := by
  unfold vCall at h
  split at h
  · rename_i f hc
    exact vCallV_sound c ty f hc h
  · rename_i hc
    unfold vX exe; rw [run_maxmin _ c hc]; exact h
  · rename_i hc
    unfold vX exe; rw [run_maxmin _ c hc]; exact h
  · rename_i b _ _ hc
    split at h
    · obtain ⟨v, hv, hk⟩ := vBi_some b c hc ty h
      unfold vX; rw [hv]; exact hk
    · exact h
  · exact h
theorem steady_part {t : TypeId} {cs : Array Value} {off : Nat} (h : vPart (oneD (P.underlying t)) (aggD P t (P.underlying t)) cs off K w) : ∃ v, Steady P (part t cs off) v ∧ K v w := by
  unfold vPart at h
  split at h
  · rename_i h1
    split at h
    · rename_i v hv
      exact ⟨v, fun w' => by simp [part, run_isAgg h1, hv], h⟩
    · exact h.elim
  · rename_i n h1 h2
    obtain ⟨_, hs⟩ := run_isAgg_yes h2 w
    exact ⟨_, fun w' => by simp [part, (run_isAgg_yes h2 w').1, run_sizeOf hs], h⟩
  · exact h.elim
theorem steady_index {t : TypeId} {u : Option TypeDesc} {x i : Value} (hu : P.underlying t = u) (h : vIndexD P t u x i K w) : (∃ v, Steady P (Instr.index t x i) v ∧ K v w) ∨ vcUp P K ((val (Instr.index t x i)).run P w) := by
  unfold vIndexD at h
  split at h
  · rename_i n e cs k j
    obtain ⟨hj, h⟩ := h
    split at h
    · rename_i s hs
      obtain ⟨v, hv, hk⟩ := steady_part h
      exact .inl ⟨v, fun w' => by simp [Instr.index, asIntOf, run_underlying hu, hj, run_sizeOf hs, hv w'], hk⟩
    · exact h.elim
  · rename_i s k j
    obtain ⟨h0, b, hb, hk⟩ := h
    exact .inl ⟨_, fun w' => by simp [Instr.index, asIntOf, run_underlying hu, h0, hb], hk⟩
  · exact .inr h
theorem vIndex_sound (t : TypeId) (x i : Value) (h : vIndex P t x i K w) : vcUp P K ((val (Instr.index t x i)).run P w) := by
  rcases steady_index rfl h with ⟨v, hv, hk⟩ | h
  · exact hv.up hk
  · exact h
theorem steady_field {t : TypeId} {f : Option (Nat × TypeId)} {x : Value} {i : Nat} (hf : fieldOf P t i = f) (h : vFieldD P t f x i K w) : (∃ v, Steady P (Instr.field t x i) v ∧ K v w) ∨ vcUp P K ((val (Instr.field t x i)).run P w) := by
  unfold vFieldD at h
  split at h
  · rename_i off ft cs
    obtain ⟨v, hv, hk⟩ := steady_part h
    refine .inl ⟨v, fun w' => ?_, hk⟩
    unfold fieldOf at hf
    split at hf
    · rename_i fs hu
      obtain ⟨fl, hfl, he⟩ := Option.map_eq_some_iff.1 hf
      simp only [Prod.mk.injEq] at he
      obtain ⟨rfl, rfl⟩ := he
      simp [Instr.field, run_underlying hu, hfl, asAgg, hv w']
    · cases hf
  · exact .inr h
theorem vField_sound (t : TypeId) (x : Value) (f : Nat) (h : vField P t x f K w) : vcUp P K ((val (Instr.field t x f)).run P w) := by
  rcases steady_field rfl h with ⟨v, hv, hk⟩ | h
  · exact hv.up hk
  · exact h
theorem vcOp_sound (op : Op) (ty : TypeId) (h : vcOp P op ty σ w K) : vX P op ty σ w K := by
  unfold vcOp at h
  split at h
  · exact h
  · exact h
  · unfold vPick at h
    split at h
    · rename_i t hc
      unfold vX exe
      simp only [execOp, hc]
      simp only [asBool]
      cases t <;> exact h
    · exact h.elim
  · exact vBin_sound _ _ _ _ _ _ h
  · exact vUn_sound _ _ h
  · exact vConv_sound _ _ _ h
  · exact vLoad_sound _ _ h
  · exact vStore_sound _ _ _ h
  · exact vAlloc_sound _ h
  · unfold vX exe
    simp only [execOp]
    show vcUp P K ((val (Instr.box _ _)).run P w)
    rw [run_val_pure (run_box _ _ w)]; exact h
  · obtain ⟨v, hv, hk⟩ := vFieldAddr_some h
    exact hv.up hk
  · exact vField_sound _ _ _ h
  · exact vIndexAddr_sound _ _ _ h
  · exact vIndex_sound _ _ _ h
  · exact vSlice_sound _ _ _ _ _ h
  · exact h
  · exact h
  · exact h
  · exact h
  · unfold vExtract at h
    split at h
    · rename_i vs hx
      split at h
      · rename_i v hv
        unfold vX exe
        simp only [execOp, hx, Instr.extract, hv]
        exact h
      · exact h.elim
    · exact h.elim
  · unfold vNil vNilV at h
    split at h
    · rename_i a hx
      unfold vX exe
      simp only [execOp, hx]
      exact h
    · exact h
  · exact vCall_sound _ _ h
  · exact h
end ops
end Go.Vc
