/- Regions that draw their order, where a call's value hangs on the world: what is shown operation by operation, in the order of the text, serves every order. -/
import Derived.Test.YtcajkjbempagaaaPartA
set_option linter.all false
section
namespace Go.Vc
open Go.RowKit
section
variable {P : Program}
def gOn (g : Option (Nat × Bool)) (σ : Env) : Bool := match g with
  | none => true
  | some (s, want) => match σ s with
    | .bool b => b == want
    | _ => false
theorem vGd_eq (g : Option (Nat × Bool)) (σ : Env) (A B : Prop) : vGd g σ A B = if gOn g σ = true then A else B := by
  unfold vGd gOn
  cases g with
  | none => simp
  | some p =>
    obtain ⟨s, want⟩ := p
    have : ∀ v : Value, (match v with | .bool b => if b = want then A else B | _ => B) = if (match v with | .bool b => b == want | _ => false) = true then A else B := by
      intro v; cases v <;> simp
    exact this (σ s)
theorem vGd_iff {g : Option (Nat × Bool)} {σ σ' : Env} {A B A' B' : Prop} (hg : ∀ s b, g = some (s, b) → σ' s = σ s) (hA : A → A') (hB : B → B') (h : vGd g σ A B) : vGd g σ' A' B' := by
  have e : gOn g σ' = gOn g σ := by
    unfold gOn
    split
    · rfl
    · rename_i s want; rw [hg s want rfl]
  rw [vGd_eq] at h ⊢
  rw [e]
  split
  · rename_i hh; rw [if_pos hh] at h; exact hA h
  · rename_i hh; rw [if_neg hh] at h; exact hB h
theorem findN_none {t : Nat} : ∀ {Ns : NS}, memN t Ns = false → findN t Ns = none
  | [], _ => rfl
  | p :: Ns, h => by
    unfold memN at h
    unfold findN
    by_cases e : p.1 = t
    · rw [if_pos e] at h; cases h
    · rw [if_neg e] at h ⊢; exact findN_none h
theorem hits_spec {Ns : NS} : ∀ {rs : List Nat}, hits rs Ns = false → ∀ t ∈ rs, memN t Ns = false
  | [], _, _, ht => by cases ht
  | t :: ts, h, u, hu => by
    unfold hits at h
    by_cases e : memN t Ns = true
    · rw [if_pos e] at h; cases h
    · rw [if_neg e] at h
      rcases List.mem_cons.1 hu with rfl | hu
      · simpa using e
      · exact hits_spec h u hu
theorem psis_of {Ns : NS} {σ σ' : Env} {w : World} : ∀ {rs : List Nat}, (∀ t ∈ rs, psi Ns σ t (σ' t) w) → psis Ns σ w σ' rs
  | [], _ => trivial
  | t :: ts, h => ⟨h t (by simp), psis_of fun u hu => h u (by simp [hu])⟩
theorem exe_congr {op : Op} (hs : ∀ cs b, op ≠ .select cs b) {ty : TypeId} {σ σ' : Env} (h : ∀ t ∈ opReads op, σ' t = σ t) (w : World) : exe P op ty σ' w = exe P op ty σ w := by
  unfold exe
  rw [execOp_congr (ρ := ev σ') (ρ' := ev σ) _ hs]
  intro x hx
  cases x with
  | tmp t =>
    refine h t ?_
    unfold opReads
    exact List.mem_filterMap.2 ⟨.tmp t, by simpa using hx, rfl⟩
  | _ => rfl
theorem exe_call {c : Call} {ty : TypeId} {σ : Env} {f : Operand} {g : FuncId} {first captured : Array Value} (hc : c.callee = .value f) (hf : ev σ f = .func (.func g) first captured) (w : World) :
    exe P (.call c) ty σ w = (callFunc g (first ++ c.args.map (ev σ) ++ captured)).run P w := by
  have : execOp (ev σ) { dst := none, op := .call c, type := ty, pos := "", after := #[], guard := none } = callFunc g (first ++ c.args.map (ev σ) ++ captured) := by
    simp only [execOp, resolve, hc, hf, Deferred.ofValue]
    rfl
  unfold exe; rw [this]
theorem nUp_mono {w : World} {R R' : Value → World → Prop} (h : ∀ v w', R v w' → R' v w') {r : Result Next} (hr : nUp P w R r) : nUp P w R' r := by
  unfold nUp at *
  split at hr
  · exact ⟨hr.1, h _ _ hr.2⟩
  · exact ⟨hr.1, h _ _ hr.2⟩
  · exact ⟨hr.1, hr.2.mono fun e w'' ⟨v, he, hl, hR⟩ => ⟨v, he, hl, h _ _ hR⟩⟩
  · exact hr.elim
theorem nUp_of_q {w : World} {v : Value} {r : Result Next} (h : qUp P w v r) : nUp P w (fun u _ => u = v) r := by
  unfold qUp at h
  unfold nUp
  split at h
  · obtain ⟨rfl, rfl⟩ := h; exact ⟨Later.refl _, rfl⟩
  · obtain ⟨rfl, rfl⟩ := h; exact ⟨Later.refl _, rfl⟩
  · obtain ⟨rfl, h⟩ := h; exact ⟨rfl, h.mono fun e w'' ⟨he, hl⟩ => ⟨v, he, hl, rfl⟩⟩
  · exact h.elim
def Fact (P : Program) (w : World) (Nsj : NS) (σj : Env) (Ns : NS) (σ : Env) (o : VOp) (rs : List Nat) : Prop :=
  ∀ σ' w', Later w w' → (∀ t ∈ rs, psi Nsj σj t (σ' t) w') →
    vGd o.guard σ' (nUp P w' (fun v w'' => ∀ d, o.dst = some d → psi Ns σ d v w'') (exe P o.op o.type σ' w')) (∀ d, o.dst = some d → psi Ns σ d undef w')
def dsts (ol : List (VOp × List Nat)) : List Nat := ol.filterMap (·.1.dst)
def Wf : List (VOp × List Nat) → Prop
  | [] => True
  | o :: rest => (∀ d, o.1.dst = some d → d ∉ dsts rest) ∧ (∀ t ∈ vReads o.1, t ∈ o.2) ∧ (∀ cs b, o.1.op ≠ .select cs b) ∧ Wf rest
theorem psi_eq {Ns Ns' : NS} {σ σ' : Env} {t : Nat} (h1 : findN t Ns = findN t Ns') (h2 : σ t = σ' t) (v : Value) (w : World) : psi Ns σ t v w = psi Ns' σ' t v w := by
  unfold psi; rw [h1, h2]
theorem put_at {σ : Env} {d : Option Nat} {v : Value} {t : Nat} (h : ∀ x, d = some x → t ≠ x) : put σ d v t = σ t := by
  cases d with
  | none => rfl
  | some d => simp [put, upd, h d rfl]
theorem put_same {σ : Env} {d : Nat} {v : Value} : put σ (some d) v d = v := by simp [put, upd]
theorem findN_cons {d : Option Nat} {V : Value → World → Prop} {Ns : NS} {t : Nat} (h : ∀ x, d = some x → t ≠ x) : findN t (consN d V Ns) = findN t Ns := by
  cases d with
  | none => rfl
  | some d =>
    unfold consN
    rw [findN, if_neg (fun e => h d rfl e.symm)]
def Concl (P : Program) (K : NS → Env → Prop) (w : World) (ol : List (VOp × List Nat)) (Ns0 : NS) (σ0 : Env) : Prop :=
  ∃ Ns σ, K Ns σ ∧ (∀ t, t ∉ dsts ol → σ t = σ0 t ∧ findN t Ns = findN t Ns0) ∧ ((∀ t V, findN t Ns = some V → Stb w V) ∧ ∀ p ∈ Ns, findN p.1 Ns = some p.2) ∧
    ∀ (k : Nat) (o : VOp × List Nat), ol[k]? = some o → ∃ Nsj σj, Fact P w Nsj σj Ns σ o.1 o.2 ∧ (∀ t ∈ dsts (ol.take k), σj t = σ t ∧ findN t Nsj = findN t Ns) ∧ (∀ t, t ∉ dsts (ol.take k) → σj t = σ0 t ∧ findN t Nsj = findN t Ns0)
theorem nOps_facts {K : NS → Env → Prop} {w : World} : ∀ (ol : List (VOp × List Nat)) (Ns0 : NS) (σ0 : Env), Wf ol → (∀ t ∈ dsts ol, findN t Ns0 = none) → ((∀ t V, findN t Ns0 = some V → Stb w V) ∧ ∀ p ∈ Ns0, findN p.1 Ns0 = some p.2) → nOps P ol Ns0 K σ0 w → Concl P K w ol Ns0 σ0
  | [], Ns0, σ0, _, _, hst, h => ⟨Ns0, σ0, h, fun _ _ => ⟨rfl, rfl⟩, hst, by simp⟩
  | (o, rs) :: rest, Ns0, σ0, hwf, hfree, hst, h => by
    obtain ⟨hd, hv, hsel, hwf'⟩ := hwf
    simp only [nOps] at h
    obtain ⟨hg, h⟩ := h
    have hsub : ∀ t, t ∉ dsts ((o, rs) :: rest) → t ∉ dsts rest ∧ ∀ x, o.dst = some x → t ≠ x := by
      intro t ht
      unfold dsts at ht ⊢
      rw [List.filterMap_cons] at ht
      cases hdst : o.dst with
      | none => simp only [hdst] at ht; exact ⟨ht, by simp⟩
      | some d =>
        simp only [hdst, List.mem_cons, not_or] at ht
        exact ⟨ht.2, fun x hx => by cases hx; exact ht.1⟩
    have hdin : ∀ d, o.dst = some d → findN d Ns0 = none := fun d hd' => hfree d (by unfold dsts; rw [List.filterMap_cons]; simp only [hd']; simp)
    have hgslot : ∀ s b, o.guard = some (s, b) → s ∈ rs ∧ findN s Ns0 = none := by
      intro s b hgs
      refine ⟨hv s (by unfold vReads; rw [hgs]; simp), findN_none ?_⟩
      unfold nGd at hg; rw [hgs] at hg; exact hg
    -- one way on: what stands behind with Ns1 and the slot's value u
    have go : ∀ (Ns1 : NS) (u : Value), (∀ t, (∀ x, o.dst = some x → t ≠ x) → findN t Ns1 = findN t Ns0) → ((∀ t V, findN t Ns1 = some V → Stb w V) ∧ ∀ p ∈ Ns1, findN p.1 Ns1 = some p.2) → nOps P rest Ns1 K (put σ0 o.dst u) w →
        (∀ (Ns : NS) (σ : Env), (∀ d, o.dst = some d → σ d = u ∧ findN d Ns = findN d Ns1) → Fact P w Ns0 σ0 Ns σ o rs) →
        Concl P K w ((o, rs) :: rest) Ns0 σ0 := by
      intro Ns1 u hN1 hst1 hrest hfact
      have hfree1 : ∀ t ∈ dsts rest, findN t Ns1 = none := by
        intro t ht
        have hne : ∀ x, o.dst = some x → t ≠ x := fun x hx e => hd x hx (e ▸ ht)
        rw [hN1 t hne]
        refine hfree t ?_
        unfold dsts at ht ⊢
        rw [List.filterMap_cons]
        cases hdst : o.dst with
        | none => simp only; exact ht
        | some d => simp only; exact List.mem_cons_of_mem _ ht
      obtain ⟨Ns, σ, hK, hfr, hst', hfacts⟩ := nOps_facts rest Ns1 (put σ0 o.dst u) hwf' hfree1 hst1 hrest
      refine ⟨Ns, σ, hK, ?_, hst', ?_⟩
      · intro t ht
        obtain ⟨ht1, ht2⟩ := hsub t ht
        obtain ⟨e1, e2⟩ := hfr t ht1
        exact ⟨by rw [e1, put_at ht2], by rw [e2, hN1 t ht2]⟩
      · intro k o' ho'
        cases k with
        | zero =>
          simp only [List.getElem?_cons_zero, Option.some.injEq] at ho'
          subst ho'
          refine ⟨Ns0, σ0, hfact Ns σ ?_, fun t ht => by simp [dsts] at ht, fun t _ => ⟨rfl, rfl⟩⟩
          intro d hdd
          obtain ⟨e1, e2⟩ := hfr d (hd d hdd)
          refine ⟨?_, e2⟩
          rw [e1, hdd, put_same]
        | succ k =>
          obtain ⟨Nsj, σj, hf, h1, h2⟩ := hfacts k o' (by simpa using ho')
          have hsplit : ∀ t, t ∈ dsts (((o, rs) :: rest).take (k + 1)) ↔ o.dst = some t ∨ t ∈ dsts (rest.take k) := by
            intro t
            unfold dsts
            rw [List.take_succ_cons, List.filterMap_cons]
            cases hdst : o.dst with
            | none => simp
            | some d => simp [eq_comm]
          have hsubr : ∀ t, t ∈ dsts (rest.take k) → t ∈ dsts rest := by
            intro t ht
            unfold dsts at ht ⊢
            obtain ⟨x, hx, hxd⟩ := List.mem_filterMap.1 ht
            exact List.mem_filterMap.2 ⟨x, List.mem_of_mem_take hx, hxd⟩
          refine ⟨Nsj, σj, hf, fun t ht => ?_, fun t ht => ?_⟩
          · by_cases ht' : t ∈ dsts (rest.take k)
            · exact h1 t ht'
            · have hdt : o.dst = some t := ((hsplit t).1 ht).resolve_right ht'
              obtain ⟨e1, e2⟩ := h2 t ht'
              obtain ⟨e3, e4⟩ := hfr t (hd t hdt)
              exact ⟨by rw [e1, e3], by rw [e2, e4]⟩
          · have ht1 : t ∉ dsts (rest.take k) := fun h => ht ((hsplit t).2 (.inr h))
            have ht2 : ∀ x, o.dst = some x → t ≠ x := fun x hx e => ht ((hsplit t).2 (.inl (e ▸ hx)))
            obtain ⟨e1, e2⟩ := h2 t ht1
            exact ⟨by rw [e1, put_at ht2], by rw [e2, hN1 t ht2]⟩
    rw [vGd_eq] at h
    by_cases hon : gOn o.guard σ0 = true
    · rw [if_pos hon] at h
      -- the guard lets by: of every env that fits
      have on' : ∀ (σ' : Env) (w' : World), (∀ t ∈ rs, psi Ns0 σ0 t (σ' t) w') → ∀ {A B : Prop}, A → vGd o.guard σ' A B := by
        intro σ' w' hp A B hA
        refine vGd_iff (σ := σ0) (A := A) (B := B) ?_ id id (by rw [vGd_eq, if_pos hon]; exact hA)
        intro s b hgs
        obtain ⟨hsr, hsn⟩ := hgslot s b hgs
        have := hp s hsr
        unfold psi at this
        rw [hsn] at this
        exact this
      -- with one value v
      have fixed : ∀ v, (∀ σ' w', Later w w' → psis Ns0 σ0 w' σ' rs → nUp P w' (fun u _ => u = v) (exe P o.op o.type σ' w')) → nOps P rest Ns0 K (put σ0 o.dst v) w → Concl P K w ((o, rs) :: rest) Ns0 σ0 := by
        intro v hx hk
        refine go Ns0 v (fun _ _ => rfl) hst hk ?_
        intro Ns σ hdd σ' w' hl hp
        refine on' σ' w' hp ?_
        refine nUp_mono ?_ (hx σ' w' hl (psis_of hp))
        rintro u w'' rfl d hdst
        obtain ⟨e1, e2⟩ := hdd d hdst
        unfold psi
        rw [e2, hdin d hdst, e1]
      -- with what holds of it
      have some' : ∀ V, Stb w V → (∀ σ' w', Later w w' → psis Ns0 σ0 w' σ' rs → nUp P w' V (exe P o.op o.type σ' w')) → nOps P rest (consN o.dst V Ns0) K (put σ0 o.dst undef) w → Concl P K w ((o, rs) :: rest) Ns0 σ0 := by
        intro V hV hx hk
        refine go (consN o.dst V Ns0) undef (fun t ht => findN_cons ht) ?_ hk ?_
        · cases hdst : o.dst with
          | none => exact hst
          | some d =>
            have hd0 := hdin d hdst
            refine ⟨fun t V' hf => ?_, fun p hp => ?_⟩
            · by_cases e : d = t
              · simp only [consN, findN, e, if_true, Option.some.injEq] at hf; exact hf ▸ hV
              · simp only [consN, findN, e, if_false] at hf; exact hst.1 t V' hf
            · rcases List.mem_cons.1 hp with rfl | hp
              · simp only [consN, findN, if_true]
              · have h1 := hst.2 p hp
                have hne : d ≠ p.1 := fun e => by rw [e, h1] at hd0; cases hd0
                simp only [consN, findN, hne, if_false]; exact h1
        · intro Ns σ hdd σ' w' hl hp
          refine on' σ' w' hp ?_
          refine nUp_mono ?_ (hx σ' w' hl (psis_of hp))
          intro u w'' hu d hdst
          obtain ⟨e1, e2⟩ := hdd d hdst
          unfold psi
          rw [e2, hdst]
          simp only [consN, findN, if_true]
          exact hu
      -- an operation whose slots are all known
      have known : hits rs Ns0 = false → ∀ σ' w', psis Ns0 σ0 w' σ' rs → ∀ t ∈ opReads o.op, σ' t = σ0 t := by
        intro hh σ' w' hp t ht
        have htr : t ∈ rs := hv t (by unfold vReads; simp [ht])
        have : ∀ {l : List Nat}, psis Ns0 σ0 w' σ' l → ∀ u ∈ l, psi Ns0 σ0 u (σ' u) w' := by
          intro l
          induction l with
          | nil => intro _ u hu; cases hu
          | cons a l ih =>
            rintro ⟨h1, h2⟩ u hu
            rcases List.mem_cons.1 hu with rfl | hu
            · exact h1
            · exact ih h2 u hu
        have h1 := this hp t htr
        unfold psi at h1
        rw [findN_none (hits_spec hh t htr)] at h1
        exact h1
      cases hh : hits rs Ns0 with
      | true =>
        simp only [hh, nPick] at h
        rcases h with ⟨v, hx, hk⟩ | ⟨V, hV, hx, hk⟩
        · exact fixed v hx hk
        · exact some' V hV hx hk
      | false =>
        simp only [hh, nPick] at h
        have plain : qOp P o.op o.type σ0 w (fun v => nOps P rest Ns0 K (put σ0 o.dst v) w) → Concl P K w ((o, rs) :: rest) Ns0 σ0 := by
          intro hq
          obtain ⟨v, hx, hk⟩ := qOp_sound _ _ hq
          refine fixed v (fun σ' w' hl hp => ?_) hk
          rw [exe_congr hsel (known hh σ' w' hp)]
          exact nUp_of_q (hx w' hl)
        unfold nPlain at h
        split at h
        · rename_i c hop
          unfold nCall at h
          split at h
          · rename_i f hc
            unfold nCallV at h
            split at h
            · rename_i g first captured hf
              have run : ∀ w', exe P o.op o.type σ0 w' = (callFunc g (first ++ c.args.map (ev σ0) ++ captured)).run P w' := by
                intro w'
                rw [hop]
                exact exe_call hc hf w'
              rcases h with ⟨v, hx, hk⟩ | ⟨V, hV, hx, hk⟩
              · refine fixed v (fun σ' w' hl hp => ?_) hk
                rw [exe_congr hsel (known hh σ' w' hp), run]
                exact nUp_of_q (hx w' hl)
              · refine some' V hV (fun σ' w' hl hp => ?_) hk
                rw [exe_congr hsel (known hh σ' w' hp), run]
                exact hx w' hl
            · exact h.elim
          · rw [← hop] at h; exact plain h
        · rename_i t n ps hop
          obtain ⟨V, hV, hx, hk⟩ := h
          refine some' V hV (fun σ' w' hl hp => ?_) hk
          rw [exe_congr hsel (known hh σ' w' hp), hop]
          exact hx w' hl
        · rename_i t hop
          obtain ⟨V, hV, hx, hk⟩ := h
          refine some' V hV (fun σ' w' hl hp => ?_) hk
          rw [exe_congr hsel (known hh σ' w' hp), hop]
          exact hx w' hl
        · exact plain h
    · rw [if_neg hon] at h
      refine go Ns0 undef (fun _ _ => rfl) hst h ?_
      intro Ns σ hdd σ' w' hl hp
      refine vGd_iff (σ := σ0) (A := False) (B := ∀ d, o.dst = some d → psi Ns σ d undef w') ?_ (fun h => h.elim) id (by
        rw [vGd_eq, if_neg hon]
        intro d hdst
        obtain ⟨e1, e2⟩ := hdd d hdst
        unfold psi
        rw [e2, hdin d hdst, e1])
      intro s b hgs
      obtain ⟨hsr, hsn⟩ := hgslot s b hgs
      have := hp s hsr
      unfold psi at this
      rw [hsn] at this
      exact this
theorem nEnd_at {K : Env → World → Prop} {w : World} {σ' : Env} : ∀ (Ns : NS) (σ : Env), (∀ p ∈ Ns, p.2 (σ' p.1) w) → (∀ t, (∀ p ∈ Ns, p.1 ≠ t) → σ' t = σ t) → nEnd Ns K σ w → K σ' w
  | [], σ, _, h2, h => by
    have : σ' = σ := funext fun t => h2 t (by simp)
    rw [this]; exact h
  | p :: Ns, σ, h1, h2, h => by
    refine nEnd_at Ns (upd σ p.1 (σ' p.1)) (fun q hq => h1 q (by simp [hq])) (fun t ht => ?_) (h _ (h1 p (by simp)))
    by_cases e : t = p.1
    · subst e; simp [upd]
    · simp only [upd, if_neg e]
      refine h2 t fun q hq => ?_
      rcases List.mem_cons.1 hq with rfl | hq
      · exact fun e' => e e'.symm
      · exact ht q hq
theorem psi_later {w0 w w' : World} {Ns : NS} {σ : Env} {t : Nat} {v : Value} (hst : ∀ t V, findN t Ns = some V → Stb w0 V) (h0 : Later w0 w) (hl : Later w w') (h : psi Ns σ t v w) : psi Ns σ t v w' := by
  unfold psi at *
  split at h
  · rename_i V hf; exact hst t V hf v w w' h0 hl h
  · exact h
theorem findN_mem {t : Nat} : ∀ {Ns : NS}, (∀ p ∈ Ns, p.1 ≠ t) → findN t Ns = none
  | [], _ => rfl
  | p :: Ns, h => by
    unfold findN
    rw [if_neg (h p (by simp))]
    exact findN_mem fun q hq => h q (by simp [hq])
theorem vReads_looksAt {n : Nat} {ops : Array Oper} {o : Oper} (hok : okOper n ops o = true) {t : Nat} (ht : t ∈ vReads (strip ops o)) : t ∈ o.looksAt ops := by
  unfold vReads at ht
  unfold Oper.looksAt
  rcases List.mem_append.1 ht with h | h
  · exact List.mem_append_left _ h
  · refine List.mem_append_right _ ?_
    cases hg : o.guard with
    | none => simp [strip, hg] at h
    | some g =>
      obtain ⟨j, want⟩ := g
      have hs : ((ops[j]?).bind (·.dst)).isSome = true := by
        simp only [okOper, hg, Bool.and_eq_true] at hok; exact hok.1.2
      obtain ⟨s, hs⟩ := Option.isSome_iff_exists.1 hs
      simp only [strip, hg, Option.map_some, hs, Option.getD_some, List.mem_singleton] at h
      simp only [hs, h, Option.toList_some, List.mem_singleton]
theorem okN_at {ops : Array Oper} (h : okN ops = true) {j : Nat} {o : Oper} (ho : ops[j]? = some o) :
    (∀ (i : Nat) (o' : Oper) (d : Nat), ops[i]? = some o' → i ≠ j → o.dst = some d → o'.dst ≠ some d) ∧ (∀ e ∈ o.after, Region.binds .any e = true → e.on < j) ∧
    (∀ t ∈ o.looksAt ops, ∀ (i : Nat) (o' : Oper), ops[i]? = some o' → o'.dst = some t → i ≠ j → (i < j ∧ ∃ e ∈ o.after, Region.binds .any e = true ∧ e.on = i) ∨ (j < i ∧ ∃ e ∈ o'.after, Region.binds .any e = true ∧ e.on = j)) := by
  have hj : j < ops.size := (Array.getElem?_eq_some_iff.1 ho).1
  have h1 := List.all_eq_true.1 h j (List.mem_range.2 hj)
  simp only [ho, Bool.and_eq_true] at h1
  obtain ⟨⟨h2, h3⟩, h4⟩ := h1
  refine ⟨fun i o' d ho' hne hd hd' => ?_, fun e he hb => ?_, fun t ht i o' ho' hd hne => ?_⟩
  · have := List.all_eq_true.1 h2 i (List.mem_range.2 (Array.getElem?_eq_some_iff.1 ho').1)
    simp [hne, hd, ho', hd'] at this
  · have := Array.all_eq_true_iff_forall_mem.1 h3 e he
    simpa [hb] using this
  · have := List.all_eq_true.1 (List.all_eq_true.1 h4 t ht) i (List.mem_range.2 (Array.getElem?_eq_some_iff.1 ho').1)
    have hbeq : (i == j) = false := by simpa using hne
    simp only [ho', hd, bne_self_eq_false, Bool.false_or, hbeq] at this
    by_cases hlt : i < j
    · rw [if_pos hlt] at this
      simp only [Array.any_eq_true, Bool.and_eq_true, beq_iff_eq] at this
      obtain ⟨k, hk, hb, hon⟩ := this
      exact .inl ⟨hlt, o.after[k], Array.getElem_mem hk, hb, hon⟩
    · rw [if_neg hlt] at this
      simp only [Array.any_eq_true, Bool.and_eq_true, beq_iff_eq] at this
      obtain ⟨k, hk, hb, hon⟩ := this
      exact .inr ⟨by omega, o'.after[k], Array.getElem_mem hk, hb, hon⟩
theorem dsts_at {ops : Array Oper} {t : Nat} (l : List Oper) (h : t ∈ dsts (withReads (l.map (strip ops)))) : ∃ (k : Nat) (o : Oper), l[k]? = some o ∧ o.dst = some t := by
  unfold dsts withReads at h
  simp only [List.map_map, List.filterMap_map, List.mem_filterMap] at h
  obtain ⟨o, ho, hd⟩ := h
  obtain ⟨k, hk⟩ := List.getElem?_of_mem ho
  exact ⟨k, o, hk, hd⟩
theorem wf_of {n : Nat} {ops : Array Oper} (h : okN ops = true) (hsel : Region.noSelect ops = true) : ∀ (l : List Oper) (m : Nat), (∀ k, l[k]? = ops[m + k]?) → l.all (okOper n ops) = true → Wf (withReads (l.map (strip ops)))
  | [], _, _, _ => trivial
  | o :: l, m, hl, hok => by
    have ho : ops[m]? = some o := by simpa using (hl 0).symm
    simp only [List.all_cons, Bool.and_eq_true] at hok
    obtain ⟨h1, h2, h3⟩ := okN_at h ho
    refine ⟨fun d hd hd' => ?_, fun t ht => ht, fun cs b => Region.noSelect_spec hsel m o cs b ho, wf_of h hsel l (m + 1) (fun k => by have := hl (k + 1); simpa [Nat.add_assoc, Nat.add_comm 1 k] using this) hok.2⟩
    obtain ⟨k, o', hk, hd''⟩ := dsts_at (ops := ops) l hd'
    have hk' : ops[m + (k + 1)]? = some o' := by rw [← hl (k + 1)]; exact hk
    exact h1 (m + (k + 1)) o' d hk' (by omega) hd hd''
theorem order {ro : Option Nat} {n : Nat} {ops : Array Oper} {ds : List Deferred} {Ns : NS} {σ0 σf : Env} {w0 : World} {Q : Exit → Act → World → Prop} (hN : okN ops = true) (hok : ops.toList.all (okOper n ops) = true)
    (hst : ∀ t V, findN t Ns = some V → Stb w0 V) (hfr : ∀ t, (∀ (j : Nat) (o : Oper), ops[j]? = some o → o.dst ≠ some t) → σf t = σ0 t ∧ findN t Ns = none)
    (hfacts : ∀ (j : Nat) (o : Oper), ops[j]? = some o → ∃ Nsj σj, Fact P w0 Nsj σj Ns σf (strip ops o) (vReads (strip ops o)) ∧
      (∀ t, (∃ (i : Nat) (o' : Oper), i < j ∧ ops[i]? = some o' ∧ o'.dst = some t) → σj t = σf t ∧ findN t Nsj = findN t Ns) ∧ (∀ t, (∀ (i : Nat) (o' : Oper), i < j → ops[i]? = some o' → o'.dst ≠ some t) → σj t = σ0 t ∧ findN t Nsj = none))
    (hQ : ∀ a σ' w', Rep n a ds σ' → Later w0 w' → (∀ (j : Nat) (o : Oper) (d : Nat), ops[j]? = some o → o.dst = some d → psi Ns σf d (σ' d) w') → (∀ t, (∀ (j : Nat) (o : Oper), ops[j]? = some o → o.dst ≠ some t) → σ' t = σ0 t) → Q .normal a w') :
    ∀ (fuel : Nat) (listed : Array Bool) (a : Act) (σ' : Env) (w' : World), Rep n a ds σ' → Later w0 w' → listed.size = ops.size → listed.toList.count false = fuel →
      (∀ (j : Nat) (o : Oper) (d : Nat), ops[j]? = some o → o.dst = some d → listed.getD j false = true → psi Ns σf d (σ' d) w') →
      (∀ t, (∀ (j : Nat) (o : Oper), ops[j]? = some o → o.dst = some t → listed.getD j false = false) → σ' t = σ0 t) →
      (∀ (j : Nat) (o : Oper), ops[j]? = some o → listed.getD j false = true → ∀ e ∈ o.after, Region.binds .any e = true → listed.getD e.on false = true) → wpAnyIn (Fw ro) 0 P .any ops Q fuel listed a w' := by
  have done : ∀ (listed : Array Bool), listed.size = ops.size → Region.ready .any ops listed = [] → ∀ j, j < ops.size → listed.getD j false = true := by
    intro listed hsz hre j
    induction j using Nat.strongRecOn with
    | ind j ih =>
      intro hj
      by_cases hc : listed.getD j false = true
      · exact hc
      · exfalso
        obtain ⟨o, ho⟩ : ∃ o, ops[j]? = some o := ⟨_, Array.getElem?_eq_getElem hj⟩
        have hun : listed.getD j true = false := by
          have : listed[j]? = some listed[j] := Array.getElem?_eq_getElem (by omega)
          simp only [Array.getD_eq_getD_getElem?, this, Option.getD_some] at hc ⊢
          simpa using hc
        have : j ∈ Region.ready .any ops listed := mem_ready.2 ⟨hun, o, ho, fun e he hb => ih e.on ((okN_at hN ho).2.1 e he hb) (by have := (okN_at hN ho).2.1 e he hb; omega)⟩
        rw [hre] at this; cases this
  have fin : ∀ (listed : Array Bool) (a : Act) (σ' : Env) (w' : World), Rep n a ds σ' → Later w0 w' → listed.size = ops.size → Region.ready .any ops listed = [] →
      (∀ (j : Nat) (o : Oper) (d : Nat), ops[j]? = some o → o.dst = some d → listed.getD j false = true → psi Ns σf d (σ' d) w') →
      (∀ t, (∀ (j : Nat) (o : Oper), ops[j]? = some o → o.dst = some t → listed.getD j false = false) → σ' t = σ0 t) → Q .normal a w' := by
    intro listed a σ' w' hr hl hsz hre hA hB
    refine hQ a σ' w' hr hl (fun j o d ho hd => hA j o d ho hd (done listed hsz hre j (Array.getElem?_eq_some_iff.1 ho).1)) (fun t ht => hB t fun j o ho hd => absurd hd (ht j o ho))
  intro fuel
  induction fuel with
  | zero =>
    intro listed a σ' w' hr hl hsz hcnt hA hB _
    have hre : Region.ready .any ops listed = [] := by
      apply List.eq_nil_iff_forall_not_mem.2
      intro j hj
      have h1 := (mem_ready.1 hj).1
      rcases Nat.lt_or_ge j listed.size with h' | h'
      · have h2 : listed[j]? = some listed[j] := Array.getElem?_eq_getElem h'
        simp only [Array.getD_eq_getD_getElem?, h2, Option.getD_some] at h1
        have : false ∈ listed.toList := by rw [← h1]; simp
        have := List.count_pos_iff.2 this
        omega
      · simp [Array.getElem?_eq_none h'] at h1
    exact ⟨hre, fin listed a σ' w' hr hl hsz hre hA hB⟩
  | succ fuel ih =>
    intro listed a σ' w' hr hl hsz hcnt hA hB hC
    refine ⟨fun hre => fin listed a σ' w' hr hl hsz hre hA hB, fun i hi => ?_⟩
    obtain ⟨hun, o, ho, hall⟩ := mem_ready.1 hi
    have hlt : i < ops.size := (Array.getElem?_eq_some_iff.1 ho).1
    have hoko : okOper n ops o = true := List.all_eq_true.1 hok o (by have := Array.mem_of_getElem? ho; simpa using this)
    obtain ⟨q1, q2, q3⟩ := okN_at hN ho
    have hli : listed[i]? = some false := by
      have h2 : listed[i]? = some listed[i] := Array.getElem?_eq_getElem (by omega)
      simp only [Array.getD_eq_getD_getElem?, h2, Option.getD_some] at hun
      rw [h2, hun]
    -- one step on
    have adv : ∀ v w'', Later w' w'' → (∀ d, (strip ops o).dst = some d → psi Ns σf d v w'') → wpAnyIn (Fw ro) 0 P .any ops Q fuel (listed.setIfInBounds i true) (a.put o.dst v) w'' := by
      intro v w'' hl' hp
      refine ih _ _ (put σ' o.dst v) w'' (hr.put (okOper_dst hoko) v) (hl.trans hl') (by simpa using hsz) ?_ ?_ ?_ ?_
      · have h1 : (listed.setIfInBounds i true).toList = listed.toList.set i true := by simp
        have hi' : i < listed.toList.length := by simp; omega
        have h2 : listed.toList[i] = false := by
          have := hli
          rw [Array.getElem?_eq_getElem (by omega)] at this
          simpa using this
        rw [h1, List.count_set hi', h2, hcnt]
        simp
      · intro j o' d ho' hd hlj
        by_cases hji : j = i
        · subst hji
          rw [ho] at ho'
          cases ho'
          rw [hd, put_same]
          exact hp d hd
        · rw [getD_set_ne false (Ne.symm hji)] at hlj
          rw [put_at fun x hx e => q1 j o' x ho' hji hx (by rw [hd, e])]
          exact psi_later hst hl hl' (hA j o' d ho' hd hlj)
      · intro t ht
        have hne : ∀ x, o.dst = some x → t ≠ x := by
          intro x hx e
          subst e
          have := ht i o ho hx
          have h3 : (listed.setIfInBounds i true).getD i false = true := by simp [show i < listed.size by omega]
          rw [h3] at this; cases this
        rw [put_at hne]
        refine hB t fun j o' ho' hd => ?_
        by_cases hji : j = i
        · subst hji
          rw [ho] at ho'; cases ho'
          exact absurd rfl (hne t hd)
        · have := ht j o' ho' hd
          rwa [getD_set_ne false (Ne.symm hji)] at this
      · intro j o' ho' hlj e he hb
        by_cases hji : j = i
        · subst hji
          rw [ho] at ho'; cases ho'
          exact getD_set_true (hall e he hb)
        · rw [getD_set_ne false (Ne.symm hji)] at hlj
          exact getD_set_true (hC j o' ho' hlj e he hb)
    obtain ⟨Nsj, σj, hfact, hbe, hno⟩ := hfacts i o ho
    have hun' : listed.getD i false = false := by simp only [Array.getD_eq_getD_getElem?, hli, Option.getD_some]
    have hreads : ∀ t ∈ vReads (strip ops o), psi Nsj σj t (σ' t) w' := by
      intro t ht
      have ht' := vReads_looksAt hoko ht
      by_cases hex : ∃ (j : Nat) (o' : Oper), j < i ∧ ops[j]? = some o' ∧ o'.dst = some t
      · obtain ⟨e1, e2⟩ := hbe t hex
        obtain ⟨j, o', hji, ho', hd⟩ := hex
        rw [psi_eq e2 e1]
        rcases q3 t ht' j o' ho' hd (by omega) with ⟨_, e, he, hb, hon⟩ | ⟨hlt, _⟩
        · exact hA j o' t ho' hd (by rw [← hon]; exact hall e he hb)
        · omega
      · have hno' : ∀ (j : Nat) (o' : Oper), j < i → ops[j]? = some o' → o'.dst ≠ some t := fun j o' hji ho' hd => hex ⟨j, o', hji, ho', hd⟩
        obtain ⟨e1, e2⟩ := hno t hno'
        unfold psi
        rw [e2, e1]
        refine hB t fun j o' ho' hd => ?_
        by_cases hji : j = i
        · rw [hji]; exact hun'
        · rcases q3 t ht' j o' ho' hd hji with ⟨hlt, _⟩ | ⟨_, e, he, hb, hon⟩
          · exact absurd hd (hno' j o' hlt ho')
          · cases hlj : listed.getD j false with
            | false => rfl
            | true =>
              have := hC j o' ho' hlj e he hb
              rw [hon, hun'] at this; cases this
    have hf := hfact σ' w' hl hreads
    unfold wpOpIn
    simp only [ho]
    rcases wanted_eq hr hoko hf with ⟨hw, h⟩ | ⟨hw, h⟩
    · rw [if_pos hw]
      refine ⟨fun _ _ => trivial, ?_⟩
      rw [Oper.semAt_eq _ _ _ (okOper_defer hoko), exe_oper hr]
      have h : nUp P w' (fun v w'' => ∀ d, (strip ops o).dst = some d → psi Ns σf d v w'') (exe P o.op o.type σ' w') := h
      generalize exe P o.op o.type σ' w' = r at h ⊢
      cases r with
      | halt => exact h.elim
      | ok nx w2 =>
        cases nx with
        | value u => exact adv u w2 h.1 h.2
        | skip => exact adv undef w2 h.1 h.2
        | enter f args =>
          obtain ⟨rfl, h⟩ := h
          refine ⟨fun x => by simp [Fw] at x, ?_⟩
          refine (callsIn_Fw ro _).2 (Calls.mono h ?_)
          rintro e w'' ⟨v, rfl, hl', hp⟩
          exact adv v w'' hl' hp
        | _ => exact h.elim
    · rw [if_neg (by simp [hw])]
      exact ⟨fun _ _ => trivial, adv undef w' (Later.refl _) h⟩
theorem withReads_fst (ops : List VOp) : (withReads ops).map (·.1) = ops := by
  unfold withReads
  rw [List.map_map]
  exact List.map_id' ops
theorem drawn_sound {ro : Option Nat} {n : Nat} {l : List Oper} {id : Nat} {K : Env → World → Prop} {σ : Env} {w : World} {a : Act} {ds : List Deferred} {Q : Exit → Act → World → Prop} (hm : P.follows .mixedOrders = true) (hlex : Region.lexB .any l.toArray = true) (hN : okN l.toArray = true)
    (hok : l.all (okOper n l.toArray) = true) (hr : Rep n a ds σ) (h : nOps P (withReads (l.map (strip l.toArray))) [] (fun Ns σ' => ∀ w', Later w w' → nEnd Ns K σ' w') σ w)
    (hQ : ∀ a' σ' w', Rep n a' ds σ' → (∀ i, i ∉ (l.map (strip l.toArray)).filterMap (·.dst) → σ' i = σ i) → K σ' w' → Q .normal a' w') : (Code.region id l.toArray true).wpIn (Fw ro) 0 P Q a w := by
  have hsel : Region.noSelect l.toArray = true := by simp only [Region.lexB, Bool.and_eq_true] at hlex; exact hlex.1
  have hwf := wf_of (n := n) hN hsel l 0 (fun k => by simp) hok
  obtain ⟨Ns, σf, hK, hfr, ⟨hst, huniq⟩, hfacts⟩ := nOps_facts (P := P) _ [] σ hwf (fun _ _ => rfl) ⟨fun t V hf => by simp [findN] at hf, by simp⟩ h
  have hnd : ∀ t, (∀ (j : Nat) (o : Oper), l.toArray[j]? = some o → o.dst ≠ some t) → t ∉ dsts (withReads (l.map (strip l.toArray))) := by
    intro t ht hd
    obtain ⟨k, o, hk, hd'⟩ := dsts_at (ops := l.toArray) l hd
    exact ht k o (by simpa using hk) hd'
  refine wpIn_region_any hm ?_
  have hl0 : Later w { w with drawn := w.drawn + 1 } := ⟨rfl, rfl, rfl, Nat.le_refl _, fun _ _ => rfl⟩
  refine order (ro := ro) (P := P) (Ns := Ns) (σ0 := σ) (σf := σf) (w0 := w) (ds := ds) (n := n) hN (by simpa using hok) hst (fun t ht => ?_) (fun j o ho => ?_) ?_ _ _ a σ _ hr hl0 (by simp) ?_ ?_ ?_ ?_
  · obtain ⟨e1, e2⟩ := hfr t (hnd t ht)
    exact ⟨e1, e2⟩
  · have hj : l[j]? = some o := by simpa using ho
    obtain ⟨Nsj, σj, hf, h1, h2⟩ := hfacts j (strip l.toArray o, vReads (strip l.toArray o)) (by unfold withReads; simp [hj])
    have htake : ∀ t, t ∈ dsts ((withReads (l.map (strip l.toArray))).take j) ↔ ∃ (i : Nat) (o' : Oper), i < j ∧ l.toArray[i]? = some o' ∧ o'.dst = some t := by
      intro t
      have e : (withReads (l.map (strip l.toArray))).take j = withReads ((l.take j).map (strip l.toArray)) := by unfold withReads; simp
      rw [e]
      constructor
      · intro h
        obtain ⟨k, o', hk, hd⟩ := dsts_at (ops := l.toArray) (l.take j) h
        have hkj : k < j := by
          by_cases hkj : k < j
          · exact hkj
          · rw [List.getElem?_take, if_neg hkj] at hk; cases hk
        exact ⟨k, o', hkj, by rw [List.getElem?_take_of_lt hkj] at hk; simpa using hk, hd⟩
      · rintro ⟨i, o', hij, ho', hd⟩
        unfold dsts withReads
        simp only [List.map_map, List.filterMap_map, List.mem_filterMap]
        refine ⟨o', List.mem_of_getElem? (i := i) (by rw [List.getElem?_take_of_lt hij]; simpa using ho'), hd⟩
    refine ⟨Nsj, σj, hf, fun t ht => h1 t ((htake t).2 ht), fun t ht => ?_⟩
    obtain ⟨e1, e2⟩ := h2 t (fun h => by obtain ⟨i, o', hij, ho', hd⟩ := (htake t).1 h; exact ht i o' hij ho' hd)
    exact ⟨e1, by rw [e2]; rfl⟩
  · intro a' σ' w' hr' hl' hA hB
    refine hQ a' σ' w' hr' ?_ ?_
    · intro i hi
      refine hB i fun j o ho hd => hi ?_
      refine List.mem_filterMap.2 ⟨strip l.toArray o, List.mem_map.2 ⟨o, by have := Array.mem_of_getElem? ho; simpa using this, rfl⟩, hd⟩
    · refine nEnd_at Ns σf ?_ ?_ (hK w' hl')
      · intro p hp
        have hf := huniq p hp
        by_cases hex : ∃ (j : Nat) (o : Oper), l.toArray[j]? = some o ∧ o.dst = some p.1
        · obtain ⟨j, o, ho, hd⟩ := hex
          have := hA j o p.1 ho hd
          unfold psi at this
          rw [hf] at this; exact this
        · exfalso
          have := (hfr p.1 (hnd p.1 fun j o ho hd => hex ⟨j, o, ho, hd⟩)).2
          rw [hf] at this; simp [findN] at this
      · intro t ht
        have hf := findN_mem ht
        by_cases hex : ∃ (j : Nat) (o : Oper), l.toArray[j]? = some o ∧ o.dst = some t
        · obtain ⟨j, o, ho, hd⟩ := hex
          have := hA j o t ho hd
          unfold psi at this
          rw [hf] at this; exact this
        · have hno : ∀ (j : Nat) (o : Oper), l.toArray[j]? = some o → o.dst ≠ some t := fun j o ho hd => hex ⟨j, o, ho, hd⟩
          rw [hB t hno, (hfr t (hnd t hno)).1]
  · simp
  · intro j o d ho hd hlj
    exfalso
    simp only [Array.getD_eq_getD_getElem?, Array.getElem?_replicate] at hlj
    split at hlj <;> simp at hlj
  · intro t _; rfl
  · intro j o ho hlj
    exfalso
    simp only [Array.getD_eq_getD_getElem?, Array.getElem?_replicate] at hlj
    split at hlj <;> simp at hlj
theorem waits_at {ops : Array Oper} {i j : Nat} (h : waits ops i j = true) : ∃ o, ops[i]? = some o ∧ ∃ e ∈ o.after, Region.binds .any e = true ∧ e.on = j := by
  unfold waits at h
  cases ho : ops[i]? with
  | none => rw [ho] at h; cases h
  | some o =>
    rw [ho] at h
    simp only [Array.any_eq_true, Bool.and_eq_true, beq_iff_eq] at h
    obtain ⟨k, hk, hb, hon⟩ := h
    exact ⟨o, rfl, o.after[k], Array.getElem_mem hk, hb, hon⟩
theorem okK_at {ops : Array Oper} {k : Nat} (h : okK ops k = true) : k < ops.size ∧ (∀ j, j < k → ∃ i, j < i ∧ i ≤ k ∧ ∃ o, ops[i]? = some o ∧ ∃ e ∈ o.after, Region.binds .any e = true ∧ e.on = j) ∧
    ∀ j, j < ops.size → k < j → ∃ o, ops[j]? = some o ∧ ∃ e ∈ o.after, Region.binds .any e = true ∧ e.on = j - 1 := by
  simp only [okK, Bool.and_eq_true, decide_eq_true_eq] at h
  obtain ⟨⟨h1, h2⟩, h3⟩ := h
  refine ⟨h1, fun j hj => ?_, fun j hj hkj => ?_⟩
  · have h4 := List.all_eq_true.1 h2 j (List.mem_range.2 hj)
    obtain ⟨i, hi, h5⟩ := List.any_eq_true.1 h4
    have := List.mem_range.1 hi
    simp only [Bool.and_eq_true, decide_eq_true_eq] at h5
    exact ⟨i, h5.1, by omega, waits_at h5.2⟩
  · have h4 := List.all_eq_true.1 h3 j (List.mem_range.2 hj)
    simp only [Bool.or_eq_true, decide_eq_true_eq] at h4
    rcases h4 with h4 | h4
    · omega
    · exact waits_at h4
theorem orderK {ro : Option Nat} {n : Nat} {ops : Array Oper} {k : Nat} {ds : List Deferred} {Ns : NS} {σ0 σf : Env} {w0 : World} {Q : Exit → Act → World → Prop} (hN : okN ops = true) (hL : okK ops k = true) (hok : ops.toList.all (okOper n ops) = true)
    (hst : ∀ t V, findN t Ns = some V → Stb w0 V)
    (hfacts : ∀ (j : Nat) (o : Oper), j < k → ops[j]? = some o → ∃ Nsj σj, Fact P w0 Nsj σj Ns σf (strip ops o) (vReads (strip ops o)) ∧
      (∀ t, (∃ (i : Nat) (o' : Oper), i < j ∧ ops[i]? = some o' ∧ o'.dst = some t) → σj t = σf t ∧ findN t Nsj = findN t Ns) ∧ (∀ t, (∀ (i : Nat) (o' : Oper), i < j → ops[i]? = some o' → o'.dst ≠ some t) → σj t = σ0 t ∧ findN t Nsj = none))
    (hlast : ∀ fuel (listed : Array Bool) a σ' w', listed.size = ops.size → listed.toList.count false = fuel → (∀ j, j < ops.size → listed.getD j false = decide (j < k)) → Rep n a ds σ' → Later w0 w' →
      (∀ (j : Nat) (o : Oper) (d : Nat), j < k → ops[j]? = some o → o.dst = some d → psi Ns σf d (σ' d) w') →
      (∀ t, (∀ (j : Nat) (o : Oper), j < k → ops[j]? = some o → o.dst ≠ some t) → σ' t = σ0 t) → wpAnyIn (Fw ro) 0 P .any ops Q fuel listed a w') :
    ∀ (fuel : Nat) (listed : Array Bool) (a : Act) (σ' : Env) (w' : World), Rep n a ds σ' → Later w0 w' → listed.size = ops.size → listed.toList.count false = fuel → listed.getD k true = false →
      (∀ (j : Nat) (o : Oper) (d : Nat), ops[j]? = some o → o.dst = some d → listed.getD j false = true → psi Ns σf d (σ' d) w') →
      (∀ t, (∀ (j : Nat) (o : Oper), ops[j]? = some o → o.dst = some t → listed.getD j false = false) → σ' t = σ0 t) →
      (∀ (j : Nat) (o : Oper), ops[j]? = some o → listed.getD j false = true → ∀ e ∈ o.after, Region.binds .any e = true → listed.getD e.on false = true) → wpAnyIn (Fw ro) 0 P .any ops Q fuel listed a w' := by
  obtain ⟨hksz, hsucc, hchain⟩ := okK_at hL
  have ft : ∀ (listed : Array Bool) (j : Nat), j < listed.size → (listed.getD j true = false ↔ listed.getD j false = false) := by
    intro listed j hj
    have : listed[j]? = some listed[j] := Array.getElem?_eq_getElem hj
    simp [Array.getD_eq_getD_getElem?, this]
  have someReady : ∀ (listed : Array Bool), listed.size = ops.size → listed.getD k true = false → Region.ready .any ops listed ≠ [] := by
    intro listed hsz hun hre
    have all : ∀ j, j < ops.size → listed.getD j false = true := by
      intro j
      induction j using Nat.strongRecOn with
      | ind j ih =>
        intro hj
        cases hc : listed.getD j false with
        | true => rfl
        | false =>
          exfalso
          obtain ⟨o, ho⟩ : ∃ o, ops[j]? = some o := ⟨_, Array.getElem?_eq_getElem hj⟩
          have : j ∈ Region.ready .any ops listed := mem_ready.2 ⟨(ft listed j (by omega)).2 hc, o, ho, fun e he hb => ih e.on ((okN_at hN ho).2.1 e he hb) (by have := (okN_at hN ho).2.1 e he hb; omega)⟩
          rw [hre] at this; cases this
    have := all k hksz
    rw [(ft listed k (by omega)).1 hun] at this; cases this
  intro fuel
  induction fuel with
  | zero =>
    intro listed a σ' w' _ _ hsz hcnt hun
    exfalso
    have h2 : listed[k]? = some listed[k] := Array.getElem?_eq_getElem (by omega)
    simp only [Array.getD_eq_getD_getElem?, h2, Option.getD_some] at hun
    have : false ∈ listed.toList := by rw [← hun]; simp
    have := List.count_pos_iff.2 this
    omega
  | succ fuel ih =>
    intro listed a σ' w' hr hl hsz hcnt hlu hA hB hC
    have hku : listed.getD k false = false := (ft listed k (by omega)).1 hlu
    -- what lies behind k waits
    have hbehind : ∀ j, j < ops.size → k ≤ j → listed.getD j false = false := by
      intro j
      induction j using Nat.strongRecOn with
      | ind j ihj =>
        intro hj hkj
        by_cases e : j = k
        · rw [e]; exact hku
        · obtain ⟨o, ho, e', he, hb, hon⟩ := hchain j hj (by omega)
          cases hlj : listed.getD j false with
          | false => rfl
          | true =>
            have h1 := hC j o ho hlj e' he hb
            rw [hon, ihj (j - 1) (by omega) (by omega) (by omega)] at h1; cases h1
    by_cases hdone : ∀ j, j < k → listed.getD j false = true
    · refine hlast _ listed a σ' w' hsz hcnt (fun j hj => ?_) hr hl (fun j o d hj ho hd => hA j o d ho hd (hdone j hj)) (fun t ht => hB t fun j o ho hd => ?_)
      · by_cases hjk : j < k
        · rw [hdone j hjk]; simp [hjk]
        · rw [hbehind j hj (by omega)]; simp [hjk]
      · by_cases hjk : j < k
        · exact absurd hd (ht j o hjk ho)
        · exact hbehind j (Array.getElem?_eq_some_iff.1 ho).1 (by omega)
    refine ⟨fun hre => absurd hre (someReady listed hsz hlu), fun i hi => ?_⟩
    obtain ⟨hun, o, ho, hall⟩ := mem_ready.1 hi
    have hlt : i < ops.size := (Array.getElem?_eq_some_iff.1 ho).1
    have hoko : okOper n ops o = true := List.all_eq_true.1 hok o (by have := Array.mem_of_getElem? ho; simpa using this)
    obtain ⟨q1, q2, q3⟩ := okN_at hN ho
    have hun' : listed.getD i false = false := (ft listed i (by omega)).1 hun
    have hli : listed[i]? = some false := by
      have h2 : listed[i]? = some listed[i] := Array.getElem?_eq_getElem (by omega)
      simp only [Array.getD_eq_getD_getElem?, h2, Option.getD_some] at hun
      rw [h2, hun]
    have hcount : (listed.setIfInBounds i true).toList.count false = fuel := by
      have h1 : (listed.setIfInBounds i true).toList = listed.toList.set i true := by simp
      have hi' : i < listed.toList.length := by simp; omega
      have h2 : listed.toList[i] = false := by
        have := hli
        rw [Array.getElem?_eq_getElem (by omega)] at this
        simpa using this
      rw [h1, List.count_set hi', h2, hcnt]
      simp
    have him : i < k := by
      rcases Nat.lt_trichotomy i k with h | h | h
      · exact h
      · exfalso
        apply hdone
        have : ∀ m j, k - j = m → j < k → listed.getD j false = true := by
          intro m
          induction m using Nat.strongRecOn with
          | ind m ihm =>
            intro j hm' hj
            obtain ⟨i', hji, hik, o', ho', e, he, hb, hon⟩ := hsucc j hj
            by_cases hi'm : i' = k
            · have ho2 : ops[i]? = some o' := by rw [h, ← hi'm]; exact ho'
              rw [ho] at ho2; cases ho2
              rw [← hon]; exact hall e he hb
            · have := ihm (k - i') (by omega) i' rfl (by omega)
              rw [← hon]; exact hC i' o' ho' this e he hb
        exact fun j hj => this _ j rfl hj
      · exfalso
        obtain ⟨o', ho', e, he, hb, hon⟩ := hchain i hlt h
        rw [ho] at ho'; cases ho'
        have h1 := hall e he hb
        rw [hon, hbehind (i - 1) (by omega) (by omega)] at h1; cases h1
    have hik : i ≠ k := by omega
    have adv : ∀ v w'', Later w' w'' → (∀ d, (strip ops o).dst = some d → psi Ns σf d v w'') → wpAnyIn (Fw ro) 0 P .any ops Q fuel (listed.setIfInBounds i true) (a.put o.dst v) w'' := by
      intro v w'' hl' hp
      refine ih _ _ (put σ' o.dst v) w'' (hr.put (okOper_dst hoko) v) (hl.trans hl') (by simpa using hsz) hcount (by rw [getD_set_ne true hik]; exact hlu) ?_ ?_ ?_
      · intro j o' d ho' hd hlj
        by_cases hji : j = i
        · subst hji
          rw [ho] at ho'
          cases ho'
          rw [hd, put_same]
          exact hp d hd
        · rw [getD_set_ne false (Ne.symm hji)] at hlj
          rw [put_at fun x hx e => q1 j o' x ho' hji hx (by rw [hd, e])]
          exact psi_later hst hl hl' (hA j o' d ho' hd hlj)
      · intro t ht
        have hne : ∀ x, o.dst = some x → t ≠ x := by
          intro x hx e
          subst e
          have := ht i o ho hx
          have h3 : (listed.setIfInBounds i true).getD i false = true := by simp [show i < listed.size by omega]
          rw [h3] at this; cases this
        rw [put_at hne]
        refine hB t fun j o' ho' hd => ?_
        by_cases hji : j = i
        · subst hji
          rw [ho] at ho'; cases ho'
          exact absurd rfl (hne t hd)
        · have := ht j o' ho' hd
          rwa [getD_set_ne false (Ne.symm hji)] at this
      · intro j o' ho' hlj e he hb
        by_cases hji : j = i
        · subst hji
          rw [ho] at ho'; cases ho'
          exact getD_set_true (hall e he hb)
        · rw [getD_set_ne false (Ne.symm hji)] at hlj
          exact getD_set_true (hC j o' ho' hlj e he hb)
    obtain ⟨Nsj, σj, hfact, hbe, hno⟩ := hfacts i o him ho
    have hreads : ∀ t ∈ vReads (strip ops o), psi Nsj σj t (σ' t) w' := by
      intro t ht
      have ht' := vReads_looksAt hoko ht
      by_cases hex : ∃ (j : Nat) (o' : Oper), j < i ∧ ops[j]? = some o' ∧ o'.dst = some t
      · obtain ⟨e1, e2⟩ := hbe t hex
        obtain ⟨j, o', hji, ho', hd⟩ := hex
        rw [psi_eq e2 e1]
        rcases q3 t ht' j o' ho' hd (by omega) with ⟨_, e, he, hb, hon⟩ | ⟨hlt, _⟩
        · exact hA j o' t ho' hd (by rw [← hon]; exact hall e he hb)
        · omega
      · have hno' : ∀ (j : Nat) (o' : Oper), j < i → ops[j]? = some o' → o'.dst ≠ some t := fun j o' hji ho' hd => hex ⟨j, o', hji, ho', hd⟩
        obtain ⟨e1, e2⟩ := hno t hno'
        unfold psi
        rw [e2, e1]
        refine hB t fun j o' ho' hd => ?_
        by_cases hji : j = i
        · rw [hji]; exact hun'
        · rcases q3 t ht' j o' ho' hd hji with ⟨hlt, _⟩ | ⟨_, e, he, hb, hon⟩
          · exact absurd hd (hno' j o' hlt ho')
          · cases hlj : listed.getD j false with
            | false => rfl
            | true =>
              have := hC j o' ho' hlj e he hb
              rw [hon, hun'] at this; cases this
    have hf := hfact σ' w' hl hreads
    unfold wpOpIn
    simp only [ho]
    rcases wanted_eq hr hoko hf with ⟨hw, h⟩ | ⟨hw, h⟩
    · rw [if_pos hw]
      refine ⟨fun _ _ => trivial, ?_⟩
      rw [Oper.semAt_eq _ _ _ (okOper_defer hoko), exe_oper hr]
      have h : nUp P w' (fun v w'' => ∀ d, (strip ops o).dst = some d → psi Ns σf d v w'') (exe P o.op o.type σ' w') := h
      generalize exe P o.op o.type σ' w' = r at h ⊢
      cases r with
      | halt => exact h.elim
      | ok nx w2 =>
        cases nx with
        | value u => exact adv u w2 h.1 h.2
        | skip => exact adv undef w2 h.1 h.2
        | enter f args =>
          obtain ⟨rfl, h⟩ := h
          refine ⟨fun x => by simp [Fw] at x, ?_⟩
          refine (callsIn_Fw ro _).2 (Calls.mono h ?_)
          rintro e w'' ⟨v, rfl, hl', hp⟩
          exact adv v w'' hl' hp
        | _ => exact h.elim
    · rw [if_neg (by simp [hw])]
      exact ⟨fun _ _ => trivial, adv undef w' (Later.refl _) h⟩
theorem sufK {ro : Option Nat} {n : Nat} {ops : Array Oper} {k : Nat} {K : Env → World → Prop} {σ : Env} {ds : List Deferred} {Q : Exit → Act → World → Prop} (hN : okN ops = true) (hL : okK ops k = true) (hok : ops.toList.all (okOper n ops) = true)
    (hQ : ∀ a' σ' w', Rep n a' ds σ' → (∀ i, i ∉ (ops.toList.map (strip ops)).filterMap (·.dst) → σ' i = σ i) → K σ' w' → Q .normal a' w') :
    ∀ (r : List Oper) (m : Nat), ops.toList.drop m = r → k ≤ m → ∀ (fuel : Nat) (listed : Array Bool) (a : Act) (σ' : Env) (w' : World), listed.size = ops.size → listed.toList.count false = fuel → (∀ j, j < ops.size → listed.getD j false = decide (j < m)) → Rep n a ds σ' →
      (∀ i, i ∉ (ops.toList.map (strip ops)).filterMap (·.dst) → σ' i = σ i) → vcOps P (r.map (strip ops)) K σ' w' → wpAnyIn (Fw ro) 0 P .any ops Q fuel listed a w' := by
  obtain ⟨hksz, _, hchain⟩ := okK_at hL
  have ft : ∀ (listed : Array Bool) (j : Nat), j < listed.size → (listed.getD j true = false ↔ listed.getD j false = false) := by
    intro listed j hj
    have : listed[j]? = some listed[j] := Array.getElem?_eq_getElem hj
    simp [Array.getD_eq_getD_getElem?, this]
  intro r
  induction r with
  | nil =>
    intro m hd hkm fuel listed a σ' w' hsz hcnt hls hr hf hv
    have hm : ops.size ≤ m := by
      have := congrArg List.length hd
      simp at this; omega
    have hre : Region.ready .any ops listed = [] := by
      apply List.eq_nil_iff_forall_not_mem.2
      intro j hj
      obtain ⟨h1, o, ho, _⟩ := mem_ready.1 hj
      have hj' := (Array.getElem?_eq_some_iff.1 ho).1
      have := (ft listed j (by omega)).1 h1
      rw [hls j hj'] at this
      simp at this; omega
    have hq := hQ a σ' w' hr hf hv
    cases fuel with
    | zero => exact ⟨hre, hq⟩
    | succ f => exact ⟨fun _ => hq, fun j hj => by rw [hre] at hj; cases hj⟩
  | cons o r ih =>
    intro m hd hkm fuel listed a σ' w' hsz hcnt hls hr hf hv
    have hm : m < ops.size := by
      have := congrArg List.length hd
      simp at this; omega
    have ho : ops[m]? = some o := by
      have h1 : (ops.toList.drop m)[0]? = some o := by rw [hd]; rfl
      rw [List.getElem?_drop] at h1
      simpa using h1
    have hd' : ops.toList.drop (m + 1) = r := by
      rw [← List.drop_drop, hd]; rfl
    have hoko : okOper n ops o = true := List.all_eq_true.1 hok o (by have := Array.mem_of_getElem? ho; simpa using this)
    have hmu : listed.getD m false = false := by rw [hls m hm]; simp
    cases fuel with
    | zero =>
      exfalso
      have h2 : listed[m]? = some listed[m] := Array.getElem?_eq_getElem (by omega)
      simp only [Array.getD_eq_getD_getElem?, h2, Option.getD_some] at hmu
      have : false ∈ listed.toList := by rw [← hmu]; simp
      have := List.count_pos_iff.2 this
      omega
    | succ fuel =>
    have hmr : m ∈ Region.ready .any ops listed := mem_ready.2 ⟨(ft listed m (by omega)).2 hmu, o, ho, fun e he hb => by
      have := (okN_at hN ho).2.1 e he hb
      rw [hls e.on (by omega)]; simp; omega⟩
    refine ⟨(fun hre => by rw [hre] at hmr; cases hmr), fun i hi => ?_⟩
    obtain ⟨hun, o', ho', hall⟩ := mem_ready.1 hi
    have hlt : i < ops.size := (Array.getElem?_eq_some_iff.1 ho').1
    have hun' : listed.getD i false = false := (ft listed i (by omega)).1 hun
    have him : i = m := by
      rw [hls i hlt] at hun'
      simp at hun'
      by_cases e : i = m
      · exact e
      · exfalso
        obtain ⟨o2, ho2, e', he, hb, hon⟩ := hchain i hlt (by omega)
        rw [ho'] at ho2; cases ho2
        have h1 := hall e' he hb
        rw [hon, hls (i - 1) (by omega)] at h1
        simp at h1; omega
    subst him
    have hcount : (listed.setIfInBounds i true).toList.count false = fuel := by
      have h1 : (listed.setIfInBounds i true).toList = listed.toList.set i true := by simp
      have hi' : i < listed.toList.length := by simp; omega
      have h2 : listed.toList[i] = false := by
        have h3 : listed[i]? = some listed[i] := Array.getElem?_eq_getElem (by omega)
        simp only [Array.getD_eq_getD_getElem?, h3, Option.getD_some] at hmu
        simpa using hmu
      rw [h1, List.count_set hi', h2, hcnt]
      simp
    have hls' : ∀ j, j < ops.size → (listed.setIfInBounds i true).getD j false = decide (j < i + 1) := by
      intro j hj
      by_cases e : j = i
      · subst e; simp [show j < listed.size by omega]
      · rw [getD_set_ne false (Ne.symm e), hls j hj, decide_eq_decide]; omega
    have hframe : ∀ u j, j ∉ (ops.toList.map (strip ops)).filterMap (·.dst) → put σ' o.dst u j = σ j := by
      intro u j hj
      rw [put_at fun x hx e => hj (List.mem_filterMap.2 ⟨strip ops o, List.mem_map.2 ⟨o, by have := Array.mem_of_getElem? ho; simpa using this, rfl⟩, by show o.dst = some j; rw [hx, e]⟩)]
      exact hf j hj
    have adv : ∀ u w'', vcOps P (r.map (strip ops)) K (put σ' o.dst u) w'' → wpAnyIn (Fw ro) 0 P .any ops Q fuel (listed.setIfInBounds i true) (a.put o.dst u) w'' := fun u w'' h =>
      ih (i + 1) hd' (by omega) fuel _ _ (put σ' o.dst u) w'' (by simpa using hsz) hcount hls' (hr.put (okOper_dst hoko) u) (hframe u) h
    unfold wpOpIn
    simp only [ho]
    simp only [List.map_cons, vcOps] at hv
    rcases wanted_eq hr hoko hv with ⟨hw, h⟩ | ⟨hw, h⟩
    · rw [if_pos hw]
      refine ⟨fun _ _ => trivial, ?_⟩
      rw [Oper.semAt_eq _ _ _ (okOper_defer hoko), exe_oper hr]
      exact vcUp_upon (ro := ro) (vcOp_sound _ _ h) fun v w'' hv => adv v w'' hv
    · rw [if_neg (by simp [hw])]
      exact ⟨fun _ _ => trivial, adv undef w' h⟩
theorem drawn_soundK {ro : Option Nat} {n : Nat} {l : List Oper} {k id : Nat} {K : Env → World → Prop} {σ : Env} {w : World} {a : Act} {ds : List Deferred} {Q : Exit → Act → World → Prop} (hm : P.follows .mixedOrders = true) (hlex : Region.lexB .any l.toArray = true) (hN : okN l.toArray = true) (hL : okK l.toArray k = true)
    (hok : l.all (okOper n l.toArray) = true) (hr : Rep n a ds σ) (h : nOps P ((withReads (l.map (strip l.toArray))).take k) [] (fun Ns σ' => ∀ w', Later w w' → nEnd Ns (fun σ2 w2 => vcOps P (((withReads (l.map (strip l.toArray))).drop k).map (·.1)) K σ2 w2) σ' w') σ w)
    (hQ : ∀ a' σ' w', Rep n a' ds σ' → (∀ i, i ∉ (l.map (strip l.toArray)).filterMap (·.dst) → σ' i = σ i) → K σ' w' → Q .normal a' w') : (Code.region id l.toArray true).wpIn (Fw ro) 0 P Q a w := by
  have hsel : Region.noSelect l.toArray = true := by simp only [Region.lexB, Bool.and_eq_true] at hlex; exact hlex.1
  obtain ⟨hksz, _, _⟩ := okK_at hL
  have hkl : k < l.length := by simpa using hksz
  have htk : (withReads (l.map (strip l.toArray))).take k = withReads ((l.take k).map (strip l.toArray)) := by unfold withReads; simp
  have hdr : ((withReads (l.map (strip l.toArray))).drop k).map (·.1) = (l.drop k).map (strip l.toArray) := by unfold withReads; simp [Function.comp_def]
  rw [htk, hdr] at h
  have hlen : (l.take k).length = k := by simp; omega
  have hget : ∀ j, j < k → (l.take k)[j]? = l.toArray[j]? := by
    intro j hj
    rw [List.getElem?_take_of_lt hj]; simp
  have hwf : Wf (withReads ((l.take k).map (strip l.toArray))) := by
    have hall := wf_of (n := n) hN hsel l 0 (fun k => by simp) hok
    have cutWf : ∀ (A B : List (VOp × List Nat)), Wf (A ++ B) → Wf A := by
      intro A
      induction A with
      | nil => intro B _; trivial
      | cons x A ih =>
        intro B hAB
        obtain ⟨h1, h2, h3, h4⟩ := hAB
        refine ⟨fun d hd hd' => h1 d hd ?_, h2, h3, ih B h4⟩
        show d ∈ dsts (A ++ B)
        unfold dsts at hd' ⊢
        rw [List.filterMap_append]
        exact List.mem_append_left _ hd'
    rw [← htk]
    rw [← List.take_append_drop k (withReads (l.map (strip l.toArray)))] at hall
    exact cutWf _ _ hall
  obtain ⟨Ns, σf, hK, hfr, ⟨hst, huniq⟩, hfacts⟩ := nOps_facts (P := P) _ [] σ hwf (fun _ _ => rfl) ⟨fun t V hf => by simp [findN] at hf, by simp⟩ h
  have hnd : ∀ t, (∀ (j : Nat) (o : Oper), j < k → l.toArray[j]? = some o → o.dst ≠ some t) → t ∉ dsts (withReads ((l.take k).map (strip l.toArray))) := by
    intro t ht hd
    obtain ⟨i, o, hk, hd'⟩ := dsts_at (ops := l.toArray) (l.take k) hd
    have hil : i < (l.take k).length := (List.getElem?_eq_some_iff.1 hk).1
    exact ht i o (by omega) (by rw [← hget i (by omega)]; exact hk) hd'
  refine wpIn_region_any hm ?_
  have hl0' : Later w { w with drawn := w.drawn + 1 } := ⟨rfl, rfl, rfl, Nat.le_refl _, fun _ _ => rfl⟩
  refine orderK (ro := ro) (P := P) (Ns := Ns) (σ0 := σ) (σf := σf) (w0 := w) (ds := ds) (n := n) (k := k) hN hL (by simpa using hok) hst (fun j o hj ho => ?_) ?_ _ _ a σ _ hr hl0' (by simp) ?_ ?_ ?_ ?_ ?_
  · have hj' : (l.take k)[j]? = some o := by rw [hget j hj]; exact ho
    obtain ⟨Nsj, σj, hf, h1, h2⟩ := hfacts j (strip l.toArray o, vReads (strip l.toArray o)) (by unfold withReads; simp only [List.getElem?_map, hj', Option.map_some])
    have htake : ∀ t, t ∈ dsts ((withReads ((l.take k).map (strip l.toArray))).take j) ↔ ∃ (i : Nat) (o' : Oper), i < j ∧ l.toArray[i]? = some o' ∧ o'.dst = some t := by
      intro t
      have e : (withReads ((l.take k).map (strip l.toArray))).take j = withReads (((l.take k).take j).map (strip l.toArray)) := by unfold withReads; simp [List.map_take]
      rw [e]
      constructor
      · intro h
        obtain ⟨i, o', hk, hd⟩ := dsts_at (ops := l.toArray) ((l.take k).take j) h
        have hkj : i < j := by
          by_cases hkj : i < j
          · exact hkj
          · rw [List.getElem?_take, if_neg hkj] at hk; cases hk
        exact ⟨i, o', hkj, by rw [List.getElem?_take_of_lt hkj] at hk; rw [← hget i (by omega)]; exact hk, hd⟩
      · rintro ⟨i, o', hij, ho', hd⟩
        unfold dsts withReads
        simp only [List.map_map, List.filterMap_map, List.mem_filterMap]
        refine ⟨o', List.mem_of_getElem? (i := i) (by rw [List.getElem?_take_of_lt hij, hget i (by omega)]; exact ho'), hd⟩
    refine ⟨Nsj, σj, hf, fun t ht => h1 t ((htake t).2 ht), fun t ht => ?_⟩
    obtain ⟨e1, e2⟩ := h2 t (fun h => by obtain ⟨i, o', hij, ho', hd⟩ := (htake t).1 h; exact ht i o' hij ho' hd)
    exact ⟨e1, by rw [e2]; rfl⟩
  · intro fuel listed a' σ' w' hsz hcnt hls hr' hl' hA hB
    have hfin : vcOps P ((l.drop k).map (strip l.toArray)) K σ' w' := by
      refine nEnd_at (K := fun σ2 w2 => vcOps P ((l.drop k).map (strip l.toArray)) K σ2 w2) Ns σf ?_ ?_ (hK w' hl')
      · intro p hp
        have hf := huniq p hp
        by_cases hex : ∃ (j : Nat) (o : Oper), j < k ∧ l.toArray[j]? = some o ∧ o.dst = some p.1
        · obtain ⟨j, o, hj, ho, hd⟩ := hex
          have := hA j o p.1 hj ho hd
          unfold psi at this
          rw [hf] at this; exact this
        · exfalso
          have := (hfr p.1 (hnd p.1 fun j o hj ho hd => hex ⟨j, o, hj, ho, hd⟩)).2
          rw [hf] at this; simp [findN] at this
      · intro t ht
        have hf := findN_mem ht
        by_cases hex : ∃ (j : Nat) (o : Oper), j < k ∧ l.toArray[j]? = some o ∧ o.dst = some t
        · obtain ⟨j, o, hj, ho, hd⟩ := hex
          have := hA j o t hj ho hd
          unfold psi at this
          rw [hf] at this; exact this
        · have hno : ∀ (j : Nat) (o : Oper), j < k → l.toArray[j]? = some o → o.dst ≠ some t := fun j o hj ho hd => hex ⟨j, o, hj, ho, hd⟩
          rw [hB t hno, (hfr t (hnd t hno)).1]
    refine sufK (ro := ro) (n := n) (ops := l.toArray) (k := k) (K := K) (σ := σ) hN hL (by simpa using hok) (by simpa using hQ) (l.drop k) k (by simp) (Nat.le_refl _) fuel listed a' σ' w' hsz hcnt hls hr' ?_ hfin
    intro i hi
    exact hB i fun j o _ ho hd => hi (List.mem_filterMap.2 ⟨strip l.toArray o, List.mem_map.2 ⟨o, by have := Array.mem_of_getElem? ho; simpa using this, rfl⟩, hd⟩)
  · simp
  · simp only [Array.getD_eq_getD_getElem?, Array.getElem?_replicate]
    rw [if_pos (by omega)]; rfl
  · intro j o d ho hd hlj
    exfalso
    simp only [Array.getD_eq_getD_getElem?, Array.getElem?_replicate] at hlj
    split at hlj <;> simp at hlj
  · intro t _; rfl
  · intro j o ho hlj
    exfalso
    simp only [Array.getD_eq_getD_getElem?, Array.getElem?_replicate] at hlj
    split at hlj <;> simp at hlj
theorem takeWhile_at {p : Nat → Bool} : ∀ (l : List Nat) (i : Nat) (x : Nat), i < (l.takeWhile p).length → l[i]? = some x → p x = true
  | [], i, x, h, _ => by simp at h
  | y :: l, i, x, h, hx => by
    by_cases hy : p y = true
    · rw [List.takeWhile_cons_of_pos hy] at h
      cases i with
      | zero => simp only [List.getElem?_cons_zero, Option.some.injEq] at hx; rw [← hx]; exact hy
      | succ i => exact takeWhile_at l i x (by simpa using h) (by simpa using hx)
    · rw [List.takeWhile_cons_of_neg hy] at h; simp at h
theorem lastN_at {ops : Array Oper} {k : Nat} (hk : k < ops.size) (h : ops.size < k + (1 + lastN ops)) : okK ops k = true := by
  have := takeWhile_at (p := fun i => okK ops (ops.size - (i + 1))) (List.range ops.size) (ops.size - k - 1) (ops.size - k - 1) (by unfold lastN at h; omega) (by rw [List.getElem?_range (by omega)])
  have e : ops.size - (ops.size - k - 1 + 1) = k := by omega
  simp only [e] at this
  exact this
end
end Go.Vc
end
section
namespace Go.Vc
open Go.RowKit Go.Sort
variable {P : Program}
theorem sList_at {ops : Array Oper} {k : Nat} : ∀ (m : Nat), m ≤ k → ∀ j ∈ sList ops k m, j = k ∨ (j < k ∧ ∃ i ∈ sList ops k m, j < i ∧ i ≤ k ∧ ∃ o, ops[i]? = some o ∧ ∃ e ∈ o.after, Region.binds .any e = true ∧ e.on = j)
  | 0, _, j, hj => .inl (List.mem_singleton.1 hj)
  | m + 1, hm, j, hj => by
    have ih := sList_at (ops := ops) (k := k) m (by omega)
    have hk : ∀ i ∈ sList ops k m, i ≤ k := fun i hi => by
      rcases ih i hi with h | h <;> omega
    unfold sList at hj ⊢
    split at hj
    · rename_i hany
      rw [if_pos hany]
      rcases List.mem_cons.1 hj with e | hj
      · obtain ⟨i, hi, h⟩ := List.any_eq_true.1 hany
        simp only [Bool.and_eq_true, decide_eq_true_eq] at h
        exact .inr ⟨by omega, i, List.mem_cons_of_mem _ hi, by omega, hk i hi, by rw [e]; exact waits_at h.2⟩
      · rcases ih j hj with h | ⟨h0, i, hi, h1, h2, h3⟩
        · exact .inl h
        · exact .inr ⟨h0, i, List.mem_cons_of_mem _ hi, h1, h2, h3⟩
    · rename_i hany
      rw [if_neg hany]
      exact ih j hj
theorem okS_at {ops : Array Oper} {k : Nat} (h : okS ops k = true) : k + 1 < ops.size ∧ okK ops (k + 1) = true ∧ (∃ o, ops[k]? = some o) ∧
    ∀ j o, j < k → ops[j]? = some o → j ∈ sList ops k k ∨ (isPO o.guard.isNone o.op = true ∧ ∀ t ∈ o.looksAt ops, ∀ i o', ops[i]? = some o' → o'.dst = some t → i < j) := by
  simp only [okS, Bool.and_eq_true, decide_eq_true_eq] at h
  obtain ⟨⟨⟨h1, h2⟩, h3⟩, h4⟩ := h
  refine ⟨h1, h2, ?_, fun j o hj ho => ?_⟩
  · cases ho : ops[k]? with
    | none => rw [ho] at h3; cases h3
    | some o => exact ⟨o, rfl⟩
  · have h5 := List.all_eq_true.1 h4 j (List.mem_range.2 hj)
    rw [ho] at h5
    simp only [Bool.or_eq_true, List.contains_iff_mem, Bool.and_eq_true] at h5
    rcases h5 with h5 | ⟨h5, h6⟩
    · exact .inl h5
    · refine .inr ⟨h5, fun t ht i o' ho' hd => ?_⟩
      have h7 := List.all_eq_true.1 (List.all_eq_true.1 h6 t ht) i (List.mem_range.2 (Array.getElem?_eq_some_iff.1 ho').1)
      simp only [Bool.or_eq_true, decide_eq_true_eq, ho', Option.bind_some, bne_iff_ne, ne_eq] at h7
      rcases h7 with h7 | h7
      · exact h7
      · exact absurd hd h7
theorem pures_at {σ : Env} {ls : List Nat} : ∀ (ol : List (VOp × List Nat)), pures P σ ls ol → ∀ o ∈ ol, isPO o.1.guard.isNone o.1.op = true → latO ls o.1 = true → pureAt P o.1 σ
  | [], _, o, ho, _, _ => by cases ho
  | x :: l, h, o, ho, hp, hq => by
    obtain ⟨h1, h2⟩ := h
    rcases List.mem_cons.1 ho with rfl | ho
    · unfold pureIf at h1; rw [hp, hq, Bool.and_self, if_pos rfl] at h1; exact h1
    · exact pures_at l h2 o ho hp hq
theorem memL_iff {d : Nat} : ∀ {l : List Nat}, d ∈ l → memL d l = true
  | [], h => by cases h
  | e :: l, h => by
    unfold memL
    by_cases hde : d = e
    · rw [if_pos hde]
    · rw [if_neg hde]
      rcases List.mem_cons.1 h with h | h
      · exact absurd h hde
      · exact memL_iff h
theorem mem_lateS {ops : Array Oper} {k j d : Nat} {o : Oper} (hj : j < k) (ho : ops[j]? = some o) (hn : j ∉ sList ops k k) (hd : o.dst = some d) : d ∈ lateS ops k := by
  refine List.mem_filterMap.2 ⟨j, List.mem_range.2 hj, ?_⟩
  rw [if_neg (by simpa using hn), ho]
  exact hd
theorem memN_find {d : Nat} : ∀ {Ns : NS}, memN d Ns = false → findN d Ns = none
  | [], _ => rfl
  | p :: Ns, h => by
    unfold memN at h
    unfold findN
    split at h
    · cases h
    · rename_i hne
      rw [if_neg hne]
      exact memN_find h
theorem freeN_at {Ns : NS} : ∀ (ls : List Nat), freeN Ns ls = true → ∀ d ∈ ls, findN d Ns = none
  | [], _, d, hd => by cases hd
  | x :: l, h, d, hd => by
    unfold freeN at h
    simp only [Bool.and_eq_true] at h
    rcases List.mem_cons.1 hd with rfl | hd
    · exact memN_find (by simpa using h.1)
    · exact freeN_at l h.2 d hd
theorem nEnd_mono {K K' : Env → World → Prop} {w : World} (h : ∀ σ w, K σ w → K' σ w) : ∀ (Ns : NS) (σ : Env), nEnd Ns K σ w → nEnd Ns K' σ w
  | [], σ, hk => h _ _ hk
  | p :: Ns, σ, hk => fun x hx => nEnd_mono h Ns _ (hk x hx)
theorem vGd_congr {g : Option (Nat × Bool)} {σ σ' : Env} {A B : Prop} (h : ∀ p, g = some p → σ' p.1 = σ p.1) (hv : vGd g σ A B) : vGd g σ' A B := by
  cases g with
  | none => exact hv
  | some p => obtain ⟨s, b⟩ := p; unfold vGd at hv ⊢; simp only at hv ⊢; rw [show σ' s = σ s from h (s, b) rfl]; exact hv
theorem orderS {ro : Option Nat} {n : Nat} {ops : Array Oper} {k : Nat} {K : Env → World → Prop} {ds : List Deferred} {Ns : NS} {σ0 σf : Env} {w0 : World} {Q : Exit → Act → World → Prop} (hN : okN ops = true) (hS : okS ops k = true) (hok : ops.toList.all (okOper n ops) = true) (hsel : Region.noSelect ops = true)
    (hst : ∀ t V, findN t Ns = some V → Stb w0 V) (huniq : ∀ p ∈ Ns, findN p.1 Ns = some p.2)
    (hfr0 : ∀ t, (∀ (j : Nat) (o : Oper), j < k → ops[j]? = some o → o.dst ≠ some t) → σf t = σ0 t ∧ findN t Ns = none)
    (hfacts : ∀ (j : Nat) (o : Oper), j < k → ops[j]? = some o → ∃ Nsj σj, Fact P w0 Nsj σj Ns σf (strip ops o) (vReads (strip ops o)) ∧
      (∀ t, (∃ (i : Nat) (o' : Oper), i < j ∧ ops[i]? = some o' ∧ o'.dst = some t) → σj t = σf t ∧ findN t Nsj = findN t Ns) ∧ (∀ t, (∀ (i : Nat) (o' : Oper), i < j → ops[i]? = some o' → o'.dst ≠ some t) → σj t = σ0 t ∧ findN t Nsj = none))
    (hfree : ∀ (j : Nat) (o : Oper) (d : Nat), j < k → ops[j]? = some o → j ∉ sList ops k k → isPO o.guard.isNone o.op = true → o.dst = some d → findN d Ns = none)
    (hlast : ∀ w', Later w0 w' → nEnd Ns (fun σ2 w2 => (∀ (j : Nat) (o : Oper), j < k → ops[j]? = some o → j ∉ sList ops k k → isPO o.guard.isNone o.op = true → pureAt P (strip ops o) σ2) ∧ vcOps P ((ops.toList.drop k).map (strip ops)) K σ2 w2) σf w')
    (hQ : ∀ a' σ' w', Rep n a' ds σ' → (∀ i, i ∉ (ops.toList.map (strip ops)).filterMap (·.dst) → σ' i = σ0 i) → K σ' w' → Q .normal a' w') :
    ∀ (fuel : Nat) (listed : Array Bool) (a : Act) (σ' : Env) (w' : World), Rep n a ds σ' → listed.size = ops.size → listed.toList.count false = fuel →
      (∀ t, (∀ (j : Nat) (o : Oper), ops[j]? = some o → o.dst = some t → listed.getD j false = false) → σ' t = σ0 t) →
      (∀ (j : Nat) (o : Oper), ops[j]? = some o → listed.getD j false = true → ∀ e ∈ o.after, Region.binds .any e = true → listed.getD e.on false = true) →
      (∀ j, k < j → listed.getD j false = false) →
      ((listed.getD k false = false ∧ Later w0 w' ∧ (∀ (j : Nat) (o : Oper) (d : Nat), j < k → ops[j]? = some o → o.dst = some d → listed.getD j false = true → psi Ns σf d (σ' d) w')) ∨ (listed.getD k false = true ∧ (∀ j ∈ sList ops k k, listed.getD j false = true) ∧ ∃ σs vk, (∀ (j : Nat) (o : Oper) (d : Nat), j < k → ops[j]? = some o → o.dst = some d → listed.getD j false = true → σ' d = σs d) ∧ (∀ t, (∀ (j : Nat) (o : Oper), j < k → ops[j]? = some o → o.dst ≠ some t) → σs t = σ0 t) ∧ (∀ (j : Nat) (o : Oper), j < k → ops[j]? = some o → j ∉ sList ops k k → isPO o.guard.isNone o.op = true → pureAt P (strip ops o) σs) ∧ (∀ o d, ops[k]? = some o → o.dst = some d → σ' d = vk) ∧ vcOps P ((ops.toList.drop (k + 1)).map (strip ops)) K (put σs ((ops[k]?).bind (·.dst)) vk) w')) → wpAnyIn (Fw ro) 0 P .any ops Q fuel listed a w' := by
  obtain ⟨hksz, hL, ⟨ok, hokk⟩, hlate⟩ := okS_at hS
  obtain ⟨_, hsucc, hchain⟩ := okK_at hL
  have ft : ∀ (listed : Array Bool) (j : Nat), j < listed.size → (listed.getD j true = false ↔ listed.getD j false = false) := by
    intro listed j hj
    have : listed[j]? = some listed[j] := Array.getElem?_eq_getElem hj
    simp [Array.getD_eq_getD_getElem?, this]
  have someReady : ∀ (listed : Array Bool) (u : Nat), listed.size = ops.size → u < ops.size → listed.getD u false = false → Region.ready .any ops listed ≠ [] := by
    intro listed u hsz hu hun hre
    have all : ∀ j, j < ops.size → listed.getD j false = true := by
      intro j
      induction j using Nat.strongRecOn with
      | ind j ih =>
        intro hj
        cases hc : listed.getD j false with
        | true => rfl
        | false =>
          exfalso
          obtain ⟨o, ho⟩ : ∃ o, ops[j]? = some o := ⟨_, Array.getElem?_eq_getElem hj⟩
          have : j ∈ Region.ready .any ops listed := mem_ready.2 ⟨(ft listed j (by omega)).2 hc, o, ho, fun e he hb => ih e.on ((okN_at hN ho).2.1 e he hb) (by have := (okN_at hN ho).2.1 e he hb; omega)⟩
          rw [hre] at this; cases this
    have := all u hu
    rw [hun] at this; cases this
  have noSel : ∀ (j : Nat) (o : Oper), ops[j]? = some o → ∀ cs b, o.op ≠ .select cs b := fun j o ho cs b => Region.noSelect_spec hsel j o cs b ho
  intro fuel
  induction fuel with
  | zero =>
    intro listed a σ' w' hr hsz hcnt hB hC hD hph
    have hall : ∀ j, j < ops.size → listed.getD j false = true := by
      intro j hj
      have h2 : listed[j]? = some listed[j] := Array.getElem?_eq_getElem (by omega)
      cases hc : listed[j] with
      | true => simp [Array.getD_eq_getD_getElem?, h2, hc]
      | false =>
        have : false ∈ listed.toList := by rw [← hc]; simp
        have := List.count_pos_iff.2 this
        omega
    have := hall (k + 1) hksz
    rw [hD (k + 1) (by omega)] at this; cases this
  | succ fuel ih =>
    intro listed a σ' w' hr hsz hcnt hB hC hD hph
    by_cases hdone : listed.getD k false = true ∧ ∀ j, j < k → listed.getD j false = true
    · obtain ⟨hk1, hdone⟩ := hdone
      rcases hph with ⟨h, _⟩ | ⟨_, _, σs, vk, hA, hfs, _, hkv, hv⟩
      · rw [hk1] at h; cases h
      have hσ : σ' = put σs ((ops[k]?).bind (·.dst)) vk := by
        funext t
        rw [hokk, Option.bind_some]
        by_cases hkt : ok.dst = some t
        · rw [hkt, put_same]
          exact hkv ok t hokk hkt
        rw [put_at fun x hx e => hkt (by rw [e]; exact hx)]
        by_cases hex : ∃ (j : Nat) (o : Oper), j < k ∧ ops[j]? = some o ∧ o.dst = some t
        · obtain ⟨j, o, hj, ho, hd⟩ := hex
          exact hA j o t hj ho hd (hdone j hj)
        · rw [hfs t fun j o hj ho hd => hex ⟨j, o, hj, ho, hd⟩]
          refine hB t fun j o ho hd => ?_
          rcases Nat.lt_trichotomy j k with h | h | h
          · exact absurd ⟨j, o, h, ho, hd⟩ hex
          · subst h; rw [hokk] at ho; cases ho; exact absurd hd hkt
          · exact hD j h
      rw [← hσ] at hv
      refine sufK (ro := ro) (n := n) (ops := ops) (k := k + 1) (K := K) (σ := σ0) hN hL hok hQ (ops.toList.drop (k + 1)) (k + 1) rfl (Nat.le_refl _) _ listed a σ' w' hsz hcnt (fun j hj => ?_) hr (fun i hi => ?_) hv
      · rcases Nat.lt_trichotomy j k with h | h | h
        · rw [hdone j h]; simp; omega
        · subst h; rw [hk1]; simp
        · rw [hD j h]; simp; omega
      · exact hB i fun j o ho hd => absurd (List.mem_filterMap.2 ⟨strip ops o, List.mem_map.2 ⟨o, by have := Array.mem_of_getElem? ho; simpa using this, rfl⟩, hd⟩) hi
    have hun0 : ∃ u, u < ops.size ∧ listed.getD u false = false := by
      by_cases hk1 : listed.getD k false = true
      · apply Classical.byContradiction
        intro hno
        refine hdone ⟨hk1, fun j hj => ?_⟩
        cases hc : listed.getD j false with
        | true => rfl
        | false => exact absurd ⟨j, by omega, hc⟩ hno
      · exact ⟨k, by omega, by simpa using hk1⟩
    obtain ⟨u0, hu0, hu0'⟩ := hun0
    refine ⟨fun hre => absurd hre (someReady listed u0 hsz hu0 hu0'), fun i hi => ?_⟩
    obtain ⟨hun, o, ho, hall⟩ := mem_ready.1 hi
    have hlt : i < ops.size := (Array.getElem?_eq_some_iff.1 ho).1
    have hoko : okOper n ops o = true := List.all_eq_true.1 hok o (by have := Array.mem_of_getElem? ho; simpa using this)
    obtain ⟨q1, q2, q3⟩ := okN_at hN ho
    have hun' : listed.getD i false = false := (ft listed i (by omega)).1 hun
    have hcount : (listed.setIfInBounds i true).toList.count false = fuel := by
      have h1 : (listed.setIfInBounds i true).toList = listed.toList.set i true := by simp
      have hi' : i < listed.toList.length := by simp; omega
      have h2 : listed.toList[i] = false := by
        have h2 : listed[i]? = some listed[i] := Array.getElem?_eq_getElem (by omega)
        simp only [Array.getD_eq_getD_getElem?, h2, Option.getD_some] at hun
        simpa using hun
      rw [h1, List.count_set hi', h2, hcnt]
      simp
    have hik : i ≤ k := by
      apply Classical.byContradiction
      intro hgt
      by_cases e : i = k + 1
      · subst e
        have hj : ∀ m j, k + 1 - j = m → j < k + 1 → listed.getD j false = true := by
          intro m
          induction m using Nat.strongRecOn with
          | ind m ihm =>
            intro j hm' hj
            obtain ⟨i', hji, hik, o', ho', e, he, hb, hon⟩ := hsucc j hj
            by_cases hi'm : i' = k + 1
            · rw [hi'm, ho] at ho'
              cases ho'
              rw [← hon]; exact hall e he hb
            · have := ihm (k + 1 - i') (by omega) i' rfl (by omega)
              rw [← hon]; exact hC i' o' ho' this e he hb
        exact hdone ⟨hj _ k rfl (by omega), fun j hjk => hj _ j rfl (by omega)⟩
      · obtain ⟨o', ho', e', he, hb, hon⟩ := hchain i hlt (by omega)
        rw [ho] at ho'; cases ho'
        have h1 := hall e' he hb
        rw [hon, hD (i - 1) (by omega)] at h1; cases h1
    -- what the operation reads
    have hreads : ∀ σs : Env, (∀ (j : Nat) (o : Oper) (d : Nat), j < k → ops[j]? = some o → o.dst = some d → listed.getD j false = true → σ' d = σs d) → (∀ t, (∀ (j : Nat) (o : Oper), j < k → ops[j]? = some o → o.dst ≠ some t) → σs t = σ0 t) →
        (∀ t ∈ o.looksAt ops, ∀ (j : Nat) (o' : Oper), ops[j]? = some o' → o'.dst = some t → i < j → k < j) → ∀ t ∈ vReads (strip ops o), (i < k → ∀ (o' : Oper), ops[i]? = some o' → o'.dst ≠ some t) → σ' t = σs t := by
      intro σs hA hfs hlt2 t ht hself
      have ht' := vReads_looksAt hoko ht
      by_cases hex : ∃ (j : Nat) (o' : Oper), j < k ∧ ops[j]? = some o' ∧ o'.dst = some t
      · obtain ⟨j, o', hjk, ho', hd⟩ := hex
        have hji : j ≠ i := fun e => by subst e; exact hself hjk o' ho' hd
        rcases q3 t ht' j o' ho' hd hji with ⟨_, e, he, hb, hon⟩ | ⟨hlt3, _⟩
        · exact hA j o' t hjk ho' hd (by rw [← hon]; exact hall e he hb)
        · have := hlt2 t ht' j o' ho' hd hlt3; omega
      · rw [hfs t fun j o' hj ho' hd => hex ⟨j, o', hj, ho', hd⟩]
        refine hB t fun j o' ho' hd => ?_
        rcases Nat.lt_trichotomy j k with h | h | h
        · exact absurd ⟨j, o', h, ho', hd⟩ hex
        · by_cases hij : i = j
          · rw [← hij]; exact hun'
          · have := hlt2 t ht' j o' ho' hd (by omega)
            omega
        · exact hD j h
    rcases Nat.eq_or_lt_of_le hik with hik | hik
    · -- the operation that changes memory
      subst hik
      rw [hokk] at ho; cases ho
      obtain ⟨hl, hAp⟩ : Later w0 w' ∧ (∀ (j : Nat) (o : Oper) (d : Nat), j < i → ops[j]? = some o → o.dst = some d → listed.getD j false = true → psi Ns σf d (σ' d) w') := by
        rcases hph with ⟨_, hl⟩ | ⟨h, _⟩
        · exact hl
        · rw [hun'] at h; cases h
      have hstrict : ∀ m j, i - j = m → j ∈ sList ops i i → j < i → listed.getD j false = true := by
        intro m
        induction m using Nat.strongRecOn with
        | ind m ihm =>
          intro j hm' hj hji
          rcases sList_at i (Nat.le_refl _) j hj with h | ⟨_, i', hi', h1, h2, o', ho', e, he, hb, hon⟩
          · omega
          · by_cases hi'm : i' = i
            · rw [hi'm, hokk] at ho'
              cases ho'
              rw [← hon]; exact hall e he hb
            · have := ihm (i - i') (by omega) i' rfl hi' (by omega)
              rw [← hon]; exact hC i' o' ho' this e he hb
      have hsall : ∀ j ∈ sList ops i i, j < i → listed.getD j false = true := fun j hj hji => hstrict _ j rfl hj hji
      obtain ⟨σs, hσs⟩ : ∃ σs : Env, ∀ t, σs t = if (findN t Ns).isSome then σ' t else σf t := ⟨_, fun _ => rfl⟩
      have hA : ∀ (j : Nat) (o : Oper) (d : Nat), j < i → ops[j]? = some o → o.dst = some d → listed.getD j false = true → σ' d = σs d := by
        intro j o d hj ho hd hlj
        have := hAp j o d hj ho hd hlj
        rw [hσs]
        unfold psi at this
        cases hf : findN d Ns with
        | some V => rfl
        | none => rw [hf] at this; simpa using this
      have hfs : ∀ t, (∀ (j : Nat) (o : Oper), j < i → ops[j]? = some o → o.dst ≠ some t) → σs t = σ0 t := by
        intro t ht
        obtain ⟨e1, e2⟩ := hfr0 t ht
        rw [hσs, e2]; simpa using e1
      have hrd : ∀ t ∈ vReads (strip ops ok), σ' t = σs t := fun t ht => hreads σs hA hfs (fun _ _ j _ _ _ h => h) t ht (fun h => absurd h (Nat.lt_irrefl _))
      have hv0 : (∀ (j : Nat) (o : Oper), j < i → ops[j]? = some o → j ∉ sList ops i i → isPO o.guard.isNone o.op = true → pureAt P (strip ops o) σs) ∧ vcOps P ((ops.toList.drop i).map (strip ops)) K σs w' := by
        refine nEnd_at (K := fun σ2 w2 => (∀ (j : Nat) (o : Oper), j < i → ops[j]? = some o → j ∉ sList ops i i → isPO o.guard.isNone o.op = true → pureAt P (strip ops o) σ2) ∧ vcOps P ((ops.toList.drop i).map (strip ops)) K σ2 w2) Ns σf ?_ ?_ (hlast w' hl)
        · intro p hp
          have hf := huniq p hp
          rw [hσs, hf]
          show p.2 (σ' p.1) w'
          by_cases hex : ∃ (j : Nat) (o : Oper), j < i ∧ ops[j]? = some o ∧ o.dst = some p.1
          · obtain ⟨j, o, hj, ho, hd⟩ := hex
            have hlj : listed.getD j false = true := by
              by_cases hin : j ∈ sList ops i i
              · exact hsall j hin hj
              · rcases hlate j o hj ho with h | ⟨h, _⟩
                · exact absurd h hin
                · have := hfree j o p.1 hj ho hin h hd
                  rw [hf] at this; cases this
            have := hAp j o p.1 hj ho hd hlj
            unfold psi at this
            rw [hf] at this; exact this
          · exfalso
            have := (hfr0 p.1 fun j o hj ho hd => hex ⟨j, o, hj, ho, hd⟩).2
            rw [hf] at this; cases this
        · intro t ht
          rw [hσs, findN_mem ht]; rfl
      obtain ⟨hpur, hv⟩ := hv0
      have hdrop : ops.toList.drop i = ok :: ops.toList.drop (i + 1) := by
        have hil : i < ops.toList.length := by simp; omega
        rw [List.drop_eq_getElem_cons hil]
        congr 1
        have := hokk
        rw [Array.getElem?_eq_getElem hlt] at this
        simpa using this
      rw [hdrop, List.map_cons] at hv
      simp only [vcOps] at hv
      have hsd : (strip ops ok).dst = ok.dst := rfl
      rw [hsd] at hv
      have hnext : ∀ u w'', vcOps P ((ops.toList.drop (i + 1)).map (strip ops)) K (put σs ok.dst u) w'' → wpAnyIn (Fw ro) 0 P .any ops Q fuel (listed.setIfInBounds i true) (a.put ok.dst u) w'' := by
        intro u w'' h
        refine ih _ _ (put σ' ok.dst u) w'' (hr.put (okOper_dst hoko) u) (by simpa using hsz) hcount ?_ ?_ ?_ (.inr ⟨by simp [show i < listed.size by omega], ?_, σs, u, ?_, hfs, hpur, ?_, by rw [hokk]; exact h⟩)
        · intro t ht
          have hne : ∀ x, ok.dst = some x → t ≠ x := by
            intro x hx e
            subst e
            have := ht i ok hokk hx
            have h3 : (listed.setIfInBounds i true).getD i false = true := by simp [show i < listed.size by omega]
            rw [h3] at this; cases this
          rw [put_at hne]
          refine hB t fun j o' ho' hd => ?_
          by_cases hji : j = i
          · subst hji; exact hun'
          · have := ht j o' ho' hd
            rwa [getD_set_ne false (Ne.symm hji)] at this
        · intro j o' ho' hlj e he hb
          by_cases hji : j = i
          · subst hji
            rw [hokk] at ho'; cases ho'
            exact getD_set_true (hall e he hb)
          · rw [getD_set_ne false (Ne.symm hji)] at hlj
            exact getD_set_true (hC j o' ho' hlj e he hb)
        · intro j hj
          rw [getD_set_ne false (by omega)]
          exact hD j hj
        · intro j hj
          by_cases hji : j = i
          · subst hji; simp [show j < listed.size by omega]
          · rw [getD_set_ne false (Ne.symm hji)]
            refine hstrict _ j rfl hj ?_
            rcases sList_at i (Nat.le_refl _) j hj with h | ⟨h, _⟩
            · exact absurd h hji
            · exact h
        · intro j o' d hj ho' hd hlj
          rw [getD_set_ne false (by omega)] at hlj
          rw [put_at fun x hx e => q1 j o' x ho' (by omega) hx (by rw [hd, e])]
          exact hA j o' d hj ho' hd hlj
        · intro o' d ho' hd
          rw [hokk] at ho'; cases ho'
          rw [hd, put_same]
      have hg : vGd (strip ops ok).guard σ' (vcOp P (strip ops ok).op (strip ops ok).type σs w' fun v w'' => vcOps P ((ops.toList.drop (i + 1)).map (strip ops)) K (put σs ok.dst v) w'') (vcOps P ((ops.toList.drop (i + 1)).map (strip ops)) K (put σs ok.dst undef) w') :=
        vGd_congr (fun p hp => hrd p.1 (by unfold vReads; rw [hp]; simp)) hv
      unfold wpOpIn
      simp only [hokk]
      rcases wanted_eq hr hoko hg with ⟨hw, h⟩ | ⟨hw, h⟩
      · rw [if_pos hw]
        refine ⟨fun _ _ => trivial, ?_⟩
        rw [Oper.semAt_eq _ _ _ (okOper_defer hoko), exe_oper hr]
        rw [exe_congr (σ := σs) (noSel i ok hokk) (fun t ht => hrd t (by unfold vReads; exact List.mem_append_left _ ht))]
        exact vcUp_upon (ro := ro) (vcOp_sound _ _ h) fun v w'' hv => hnext v w'' hv
      · rw [if_neg (by simp [hw])]
        exact ⟨fun _ _ => trivial, hnext undef w' h⟩
    · -- an operation ahead of it
      have adv : ∀ v w'', ((listed.getD k false = false ∧ Later w0 w'' ∧ Later w' w'' ∧ (∀ (j : Nat) (o : Oper) (d : Nat), j < k → ops[j]? = some o → o.dst = some d → listed.getD j false = true → psi Ns σf d (σ' d) w') ∧ (∀ d, (strip ops o).dst = some d → psi Ns σf d v w'') ∧ Later w0 w') ∨
          (listed.getD k false = true ∧ (∀ j ∈ sList ops k k, listed.getD j false = true) ∧ ∃ σs vk, (∀ (j : Nat) (o : Oper) (d : Nat), j < k → ops[j]? = some o → o.dst = some d → listed.getD j false = true → σ' d = σs d) ∧ (∀ t, (∀ (j : Nat) (o : Oper), j < k → ops[j]? = some o → o.dst ≠ some t) → σs t = σ0 t) ∧ (∀ (j : Nat) (o : Oper), j < k → ops[j]? = some o → j ∉ sList ops k k → isPO o.guard.isNone o.op = true → pureAt P (strip ops o) σs) ∧ (∀ o d, ops[k]? = some o → o.dst = some d → σ' d = vk) ∧ vcOps P ((ops.toList.drop (k + 1)).map (strip ops)) K (put σs ((ops[k]?).bind (·.dst)) vk) w'' ∧ (∀ d, (strip ops o).dst = some d → v = σs d))) → wpAnyIn (Fw ro) 0 P .any ops Q fuel (listed.setIfInBounds i true) (a.put o.dst v) w'' := by
        intro v w'' hph'
        refine ih _ _ (put σ' o.dst v) w'' (hr.put (okOper_dst hoko) v) (by simpa using hsz) hcount ?_ ?_ ?_ ?_
        · intro t ht
          have hne : ∀ x, o.dst = some x → t ≠ x := by
            intro x hx e
            subst e
            have := ht i o ho hx
            have h3 : (listed.setIfInBounds i true).getD i false = true := by simp [show i < listed.size by omega]
            rw [h3] at this; cases this
          rw [put_at hne]
          refine hB t fun j o' ho' hd => ?_
          by_cases hji : j = i
          · subst hji
            rw [ho] at ho'; cases ho'
            exact absurd rfl (hne t hd)
          · have := ht j o' ho' hd
            rwa [getD_set_ne false (Ne.symm hji)] at this
        · intro j o' ho' hlj e he hb
          by_cases hji : j = i
          · subst hji
            rw [ho] at ho'; cases ho'
            exact getD_set_true (hall e he hb)
          · rw [getD_set_ne false (Ne.symm hji)] at hlj
            exact getD_set_true (hC j o' ho' hlj e he hb)
        · intro j hj
          rw [getD_set_ne false (by omega)]
          exact hD j hj
        · rw [getD_set_ne false (by omega)]
          rcases hph' with ⟨h1, h2, h3, h4, h5, h6⟩ | ⟨h1, h2, σs, vk, h3, h4, h5, hkv, h6, h7⟩
          · refine .inl ⟨h1, h2, fun j o' d hj ho' hd hlj => ?_⟩
            by_cases hji : j = i
            · subst hji
              rw [ho] at ho'
              cases ho'
              rw [hd, put_same]
              exact h5 d hd
            · rw [getD_set_ne false (Ne.symm hji)] at hlj
              rw [put_at fun x hx e => q1 j o' x ho' hji hx (by rw [hd, e])]
              exact psi_later hst h6 h3 (h4 j o' d hj ho' hd hlj)
          · refine .inr ⟨h1, fun j hj => getD_set_true (h2 j hj), σs, vk, fun j o' d hj ho' hd hlj => ?_, h4, h5, fun o' d ho' hd => (by rw [put_at fun x hx e => q1 k o' x ho' (by omega) hx (by rw [hd, e])]; exact hkv o' d ho' hd), h6⟩
            by_cases hji : j = i
            · subst hji
              rw [ho] at ho'
              cases ho'
              rw [hd, put_same]
              exact h7 d hd
            · rw [getD_set_ne false (Ne.symm hji)] at hlj
              rw [put_at fun x hx e => q1 j o' x ho' hji hx (by rw [hd, e])]
              exact h3 j o' d hj ho' hd hlj
      rcases hph with ⟨hk0, hl, hAp⟩ | ⟨hk1, hst', σs, vk, hA, hfs, hpur, hkv, hv⟩
      · -- memory has not been changed yet
        obtain ⟨Nsj, σj, hfact, hbe, hno⟩ := hfacts i o hik ho
        have hrd : ∀ t ∈ vReads (strip ops o), psi Nsj σj t (σ' t) w' := by
          intro t ht
          have ht' := vReads_looksAt hoko ht
          by_cases hex : ∃ (j : Nat) (o' : Oper), j < i ∧ ops[j]? = some o' ∧ o'.dst = some t
          · obtain ⟨e1, e2⟩ := hbe t hex
            obtain ⟨j, o', hji, ho', hd⟩ := hex
            rw [psi_eq e2 e1]
            rcases q3 t ht' j o' ho' hd (by omega) with ⟨_, e, he, hb, hon⟩ | ⟨hlt, _⟩
            · exact hAp j o' t (by omega) ho' hd (by rw [← hon]; exact hall e he hb)
            · omega
          · have hno' : ∀ (j : Nat) (o' : Oper), j < i → ops[j]? = some o' → o'.dst ≠ some t := fun j o' hji ho' hd => hex ⟨j, o', hji, ho', hd⟩
            obtain ⟨e1, e2⟩ := hno t hno'
            unfold psi
            rw [e2, e1]
            refine hB t fun j o' ho' hd => ?_
            by_cases hji : j = i
            · rw [hji]; exact hun'
            · rcases q3 t ht' j o' ho' hd hji with ⟨hlt, _⟩ | ⟨_, e, he, hb, hon⟩
              · exact absurd hd (hno' j o' hlt ho')
              · cases hlj : listed.getD j false with
                | false => rfl
                | true =>
                  have := hC j o' ho' hlj e he hb
                  rw [hon, hun'] at this; cases this
        have hf := hfact σ' w' hl hrd
        unfold wpOpIn
        simp only [ho]
        rcases wanted_eq hr hoko hf with ⟨hw, h⟩ | ⟨hw, h⟩
        · rw [if_pos hw]
          refine ⟨fun _ _ => trivial, ?_⟩
          rw [Oper.semAt_eq _ _ _ (okOper_defer hoko), exe_oper hr]
          have h : nUp P w' (fun v w'' => ∀ d, (strip ops o).dst = some d → psi Ns σf d v w'') (exe P o.op o.type σ' w') := h
          generalize exe P o.op o.type σ' w' = r at h ⊢
          cases r with
          | halt => exact h.elim
          | ok nx w2 =>
            cases nx with
            | value u => exact adv u w2 (.inl ⟨hk0, hl.trans h.1, h.1, hAp, h.2, hl⟩)
            | skip => exact adv undef w2 (.inl ⟨hk0, hl.trans h.1, h.1, hAp, h.2, hl⟩)
            | enter f args =>
              obtain ⟨rfl, h⟩ := h
              refine ⟨fun x => by simp [Fw] at x, ?_⟩
              refine (callsIn_Fw ro _).2 (Calls.mono h ?_)
              rintro e w'' ⟨v, rfl, hl', hp⟩
              exact adv v w'' (.inl ⟨hk0, hl.trans hl', hl', hAp, hp, hl⟩)
            | _ => exact h.elim
        · rw [if_neg (by simp [hw])]
          exact ⟨fun _ _ => trivial, adv undef w' (.inl ⟨hk0, hl, Later.refl _, hAp, h, hl⟩)⟩
      · -- memory has been changed: the operation hangs on no world
        have hnin : i ∉ sList ops k k := fun hin => by
          have := hst' i hin
          rw [hun'] at this; cases this
        rcases hlate i o hik ho with hin | ⟨hpo, hrl⟩
        · exact absurd hin hnin
        have hrd : ∀ t ∈ vReads (strip ops o), σ' t = σs t := fun t ht => by
          have ht' := vReads_looksAt hoko ht
          refine hreads σs hA hfs (fun t ht j o' ho' hd h => by have := hrl t ht j o' ho' hd; omega) t ht (fun _ o' ho' hd => ?_)
          have := hrl t ht' i o' ho' hd
          omega
        have hp := hpur i o hik ho hnin hpo w'
        have hgn : o.guard = none := by
          unfold isPO at hpo
          simp only [Bool.and_eq_true] at hpo
          exact Option.isNone_iff_eq_none.1 hpo.1
        have hw : Region.wanted o (yielded ops a.tmps) = true := by simp [Region.wanted, hgn]
        unfold wpOpIn
        simp only [ho]
        rw [if_pos hw]
        refine ⟨fun _ _ => trivial, ?_⟩
        rw [Oper.semAt_eq _ _ _ (okOper_defer hoko), exe_oper hr]
        rw [exe_congr (σ := σs) (noSel i o ho) (fun t ht => hrd t (by unfold vReads; exact List.mem_append_left _ ht))]
        refine vcUp_upon (ro := ro) (vcOp_sound _ _ hp) fun v w'' hv2 => ?_
        obtain ⟨h1, rfl⟩ := hv2
        exact adv v w'' (.inr ⟨hk1, hst', σs, vk, hA, hfs, hpur, hkv, hv, h1⟩)
theorem drawn_soundS {ro : Option Nat} {n : Nat} {l : List Oper} {k id : Nat} {K : Env → World → Prop} {σ : Env} {w : World} {a : Act} {ds : List Deferred} {Q : Exit → Act → World → Prop} (hm : P.follows .mixedOrders = true) (hlex : Region.lexB .any l.toArray = true) (hN : okN l.toArray = true) (hS : okS l.toArray k = true)
    (hok : l.all (okOper n l.toArray) = true) (hr : Rep n a ds σ) (h : nOps P ((withReads (l.map (strip l.toArray))).take k) [] (tailS P (withReads (l.map (strip l.toArray))) (lateS l.toArray k) k K w) σ w)
    (hQ : ∀ a' σ' w', Rep n a' ds σ' → (∀ i, i ∉ (l.map (strip l.toArray)).filterMap (·.dst) → σ' i = σ i) → K σ' w' → Q .normal a' w') : (Code.region id l.toArray true).wpIn (Fw ro) 0 P Q a w := by
  have hsel : Region.noSelect l.toArray = true := by simp only [Region.lexB, Bool.and_eq_true] at hlex; exact hlex.1
  obtain ⟨hksz, hL, _, _⟩ := okS_at hS
  have hkl : k < l.length := by
    have : k + 1 < l.length := by simpa using hksz
    omega
  have htk : (withReads (l.map (strip l.toArray))).take k = withReads ((l.take k).map (strip l.toArray)) := by unfold withReads; simp
  have hdr : ((withReads (l.map (strip l.toArray))).drop k).map (·.1) = (l.drop k).map (strip l.toArray) := by unfold withReads; simp [Function.comp_def]
  unfold tailS at h
  rw [htk, hdr] at h
  have hlen : (l.take k).length = k := by simp; omega
  have hget : ∀ j, j < k → (l.take k)[j]? = l.toArray[j]? := by
    intro j hj
    rw [List.getElem?_take_of_lt hj]; simp
  have hwf : Wf (withReads ((l.take k).map (strip l.toArray))) := by
    have hall := wf_of (n := n) hN hsel l 0 (fun k => by simp) hok
    have cutWf : ∀ (A B : List (VOp × List Nat)), Wf (A ++ B) → Wf A := by
      intro A
      induction A with
      | nil => intro B _; trivial
      | cons x A ih =>
        intro B hAB
        obtain ⟨h1, h2, h3, h4⟩ := hAB
        refine ⟨fun d hd hd' => h1 d hd ?_, h2, h3, ih B h4⟩
        show d ∈ dsts (A ++ B)
        unfold dsts at hd' ⊢
        rw [List.filterMap_append]
        exact List.mem_append_left _ hd'
    rw [← htk]
    rw [← List.take_append_drop k (withReads (l.map (strip l.toArray)))] at hall
    exact cutWf _ _ hall
  obtain ⟨Ns, σf, hK, hfr, ⟨hst, huniq⟩, hfacts⟩ := nOps_facts (P := P) _ [] σ hwf (fun _ _ => rfl) ⟨fun t V hf => by simp [findN] at hf, by simp⟩ h
  obtain ⟨hfree, hlast⟩ := hK
  have hnd : ∀ t, (∀ (j : Nat) (o : Oper), j < k → l.toArray[j]? = some o → o.dst ≠ some t) → t ∉ dsts (withReads ((l.take k).map (strip l.toArray))) := by
    intro t ht hd
    obtain ⟨i, o, hk, hd'⟩ := dsts_at (ops := l.toArray) (l.take k) hd
    have hil : i < (l.take k).length := (List.getElem?_eq_some_iff.1 hk).1
    exact ht i o (by omega) (by rw [← hget i (by omega)]; exact hk) hd'
  refine wpIn_region_any hm ?_
  have hl0' : Later w { w with drawn := w.drawn + 1 } := ⟨rfl, rfl, rfl, Nat.le_refl _, fun _ _ => rfl⟩
  have hpre : ∀ (j : Nat) (o : Oper), j < k → l.toArray[j]? = some o → (strip l.toArray o, vReads (strip l.toArray o)) ∈ withReads ((l.take k).map (strip l.toArray)) := by
    intro j o hj ho
    have hj' : (l.take k)[j]? = some o := by rw [hget j hj]; exact ho
    refine List.mem_of_getElem? (i := j) ?_
    unfold withReads; simp only [List.getElem?_map, hj', Option.map_some]
  refine orderS (ro := ro) (P := P) (Ns := Ns) (σ0 := σ) (σf := σf) (w0 := w) (ds := ds) (n := n) (k := k) (K := K) hN hS (by simpa using hok) hsel hst huniq (fun t ht => ⟨(hfr t (hnd t ht)).1, by rw [(hfr t (hnd t ht)).2]; rfl⟩) (fun j o hj ho => ?_) (fun j o d hj ho hn hp hd => ?_) (fun w' hl => ?_) (by simpa using hQ) _ _ a σ _ hr (by simp) (by simp) ?_ ?_ ?_ (.inl ⟨?_, hl0', ?_⟩)
  · have hj' : (l.take k)[j]? = some o := by rw [hget j hj]; exact ho
    obtain ⟨Nsj, σj, hf, h1, h2⟩ := hfacts j (strip l.toArray o, vReads (strip l.toArray o)) (by unfold withReads; simp only [List.getElem?_map, hj', Option.map_some])
    have htake : ∀ t, t ∈ dsts ((withReads ((l.take k).map (strip l.toArray))).take j) ↔ ∃ (i : Nat) (o' : Oper), i < j ∧ l.toArray[i]? = some o' ∧ o'.dst = some t := by
      intro t
      have e : (withReads ((l.take k).map (strip l.toArray))).take j = withReads (((l.take k).take j).map (strip l.toArray)) := by unfold withReads; simp [List.map_take]
      rw [e]
      constructor
      · intro h
        obtain ⟨i, o', hk, hd⟩ := dsts_at (ops := l.toArray) ((l.take k).take j) h
        have hkj : i < j := by
          by_cases hkj : i < j
          · exact hkj
          · rw [List.getElem?_take, if_neg hkj] at hk; cases hk
        exact ⟨i, o', hkj, by rw [List.getElem?_take_of_lt hkj] at hk; rw [← hget i (by omega)]; exact hk, hd⟩
      · rintro ⟨i, o', hij, ho', hd⟩
        unfold dsts withReads
        simp only [List.map_map, List.filterMap_map, List.mem_filterMap]
        refine ⟨o', List.mem_of_getElem? (i := i) (by rw [List.getElem?_take_of_lt hij, hget i (by omega)]; exact ho'), hd⟩
    refine ⟨Nsj, σj, hf, fun t ht => h1 t ((htake t).2 ht), fun t ht => ?_⟩
    obtain ⟨e1, e2⟩ := h2 t (fun h => by obtain ⟨i, o', hij, ho', hd⟩ := (htake t).1 h; exact ht i o' hij ho' hd)
    exact ⟨e1, by rw [e2]; rfl⟩
  · exact freeN_at _ hfree d (mem_lateS hj ho hn hd)
  · have := hlast w' hl
    refine nEnd_mono (fun σ2 w2 h => ⟨fun j o hj ho hn hp => ?_, by simpa using h.2⟩) Ns _ this
    refine pures_at _ h.1 _ (hpre j o hj ho) ?_ ?_
    · unfold strip
      simpa using hp
    · show latO _ (strip l.toArray o) = true
      unfold latO strip
      cases hd : o.dst with
      | none => rfl
      | some d => exact memL_iff (mem_lateS hj ho hn hd)
  · intro t _; rfl
  · intro j o ho hlj
    exfalso
    simp only [Array.getD_eq_getD_getElem?, Array.getElem?_replicate] at hlj
    split at hlj <;> simp at hlj
  · intro j hj
    simp only [Array.getD_eq_getD_getElem?, Array.getElem?_replicate]
    split <;> rfl
  · simp only [Array.getD_eq_getD_getElem?, Array.getElem?_replicate]
    split <;> rfl
  · intro j o d _ ho hd hlj
    exfalso
    simp only [Array.getD_eq_getD_getElem?, Array.getElem?_replicate] at hlj
    split at hlj <;> simp at hlj
end Go.Vc
end
section
namespace Go.Vc
open Go.RowKit Go.Sort
variable {P : Program}
theorem okT_at {ops : Array Oper} {m k : Nat} (h : okT ops m k = true) : m < k ∧ okK ops k = true ∧ (∃ o, ops[m]? = some o ∧ o.guard = none ∧ ∀ t ∈ o.looksAt ops, ∀ i o', ops[i]? = some o' → o'.dst = some t → i < m) ∧
    ∀ j o, j < k → j ≠ m → ops[j]? = some o → j ∈ sList ops m m ∨ (isLO o.guard.isNone o.op = true ∧ ∀ t ∈ o.looksAt ops, ∀ i o', ops[i]? = some o' → o'.dst = some t → i < j ∧ i ≠ m) := by
  simp only [okT, Bool.and_eq_true, decide_eq_true_eq] at h
  obtain ⟨⟨⟨h1, h2⟩, h3⟩, h4⟩ := h
  refine ⟨h1, h2, ?_, fun j o hj hjm ho => ?_⟩
  · cases ho : ops[m]? with
    | none => rw [ho] at h3; cases h3
    | some o =>
      rw [ho] at h3
      simp only [Bool.and_eq_true] at h3
      refine ⟨o, rfl, Option.isNone_iff_eq_none.1 h3.1, fun t ht i o' ho' hd => ?_⟩
      have h7 := List.all_eq_true.1 (List.all_eq_true.1 h3.2 t ht) i (List.mem_range.2 (Array.getElem?_eq_some_iff.1 ho').1)
      simp only [Bool.or_eq_true, decide_eq_true_eq, ho', Option.bind_some, bne_iff_ne, ne_eq] at h7
      rcases h7 with h7 | h7
      · exact h7
      · exact absurd hd h7
  · have h5 := List.all_eq_true.1 h4 j (List.mem_range.2 hj)
    rw [ho] at h5
    simp only [Bool.or_eq_true, List.contains_iff_mem, Bool.and_eq_true, beq_iff_eq] at h5
    rcases h5 with (h5 | h5) | ⟨h5, h6⟩
    · exact absurd h5 hjm
    · exact .inl h5
    · refine .inr ⟨h5, fun t ht i o' ho' hd => ?_⟩
      have h7 := List.all_eq_true.1 (List.all_eq_true.1 h6 t ht) i (List.mem_range.2 (Array.getElem?_eq_some_iff.1 ho').1)
      simp only [Bool.or_eq_true, Bool.and_eq_true, decide_eq_true_eq, ho', Option.bind_some, bne_iff_ne, ne_eq] at h7
      rcases h7 with h7 | h7
      · exact h7
      · exact absurd hd h7
theorem orderT {ro : Option Nat} {n : Nat} {ops : Array Oper} {m k : Nat} {K : Env → World → Prop} {ds : List Deferred} {Ns : NS} {σ0 σf : Env} {w0 : World} {Q : Exit → Act → World → Prop} (hN : okN ops = true) (hS : okT ops m k = true) (hok : ops.toList.all (okOper n ops) = true) (hsel : Region.noSelect ops = true)
    (hst : ∀ t V, findN t Ns = some V → Stb w0 V) (huniq : ∀ p ∈ Ns, findN p.1 Ns = some p.2)
    (hfr0 : ∀ t, (∀ (j : Nat) (o : Oper), j < k → j ≠ m → ops[j]? = some o → o.dst ≠ some t) → σf t = σ0 t ∧ findN t Ns = none)
    (hfacts : ∀ (j : Nat) (o : Oper), j < k → j ≠ m → ops[j]? = some o → ∃ Nsj σj, Fact P w0 Nsj σj Ns σf (strip ops o) (vReads (strip ops o)) ∧
      (∀ t, (∃ (i : Nat) (o' : Oper), i < j ∧ i ≠ m ∧ ops[i]? = some o' ∧ o'.dst = some t) → σj t = σf t ∧ findN t Nsj = findN t Ns) ∧ (∀ t, (∀ (i : Nat) (o' : Oper), i < j → i ≠ m → ops[i]? = some o' → o'.dst ≠ some t) → σj t = σ0 t ∧ findN t Nsj = none))
    (hfree : ∀ (j : Nat) (o : Oper) (d : Nat), j < k → j ≠ m → ops[j]? = some o → j ∉ sList ops m m → isLO o.guard.isNone o.op = true → o.dst = some d → findN d Ns = none)
    (hlast : ∀ w', Later w0 w' → nEnd Ns (fun σ2 w2 => ∀ o, ops[m]? = some o → vcUp P (fun v w3 => (∀ (j : Nat) (o : Oper), j < k → j ≠ m → ops[j]? = some o → j ∉ sList ops m m → isLO o.guard.isNone o.op = true → lateAt P (strip ops o) σ2 w3) ∧ vcOps P ((ops.toList.drop k).map (strip ops)) K (put σ2 o.dst v) w3) (exe P o.op o.type σ2 w2)) σf w')
    (hQ : ∀ a' σ' w', Rep n a' ds σ' → (∀ i, i ∉ (ops.toList.map (strip ops)).filterMap (·.dst) → σ' i = σ0 i) → K σ' w' → Q .normal a' w') :
    ∀ (fuel : Nat) (listed : Array Bool) (a : Act) (σ' : Env) (w' : World), Rep n a ds σ' → listed.size = ops.size → listed.toList.count false = fuel →
      (∀ t, (∀ (j : Nat) (o : Oper), ops[j]? = some o → o.dst = some t → listed.getD j false = false) → σ' t = σ0 t) →
      (∀ (j : Nat) (o : Oper), ops[j]? = some o → listed.getD j false = true → ∀ e ∈ o.after, Region.binds .any e = true → listed.getD e.on false = true) →
      (∀ j, k ≤ j → listed.getD j false = false) →
      ((listed.getD m false = false ∧ Later w0 w' ∧ (∀ (j : Nat) (o : Oper) (d : Nat), j < k → j ≠ m → ops[j]? = some o → o.dst = some d → listed.getD j false = true → psi Ns σf d (σ' d) w')) ∨ (listed.getD m false = true ∧ (∀ j ∈ sList ops m m, listed.getD j false = true) ∧ ∃ σs vk, (∀ (j : Nat) (o : Oper) (d : Nat), j < k → j ≠ m → ops[j]? = some o → o.dst = some d → listed.getD j false = true → σ' d = σs d) ∧ (∀ t, (∀ (j : Nat) (o : Oper), j < k → j ≠ m → ops[j]? = some o → o.dst ≠ some t) → σs t = σ0 t) ∧ (∀ (j : Nat) (o : Oper), j < k → j ≠ m → ops[j]? = some o → j ∉ sList ops m m → isLO o.guard.isNone o.op = true → lateAt P (strip ops o) σs w') ∧ (∀ o d, ops[m]? = some o → o.dst = some d → σ' d = vk) ∧ vcOps P ((ops.toList.drop k).map (strip ops)) K (put σs ((ops[m]?).bind (·.dst)) vk) w')) → wpAnyIn (Fw ro) 0 P .any ops Q fuel listed a w' := by
  obtain ⟨hmk, hL, ⟨ok, hokk, hokg, hokr⟩, hlate⟩ := okT_at hS
  obtain ⟨hksz, hsucc, hchain⟩ := okK_at hL
  have ft : ∀ (listed : Array Bool) (j : Nat), j < listed.size → (listed.getD j true = false ↔ listed.getD j false = false) := by
    intro listed j hj
    have : listed[j]? = some listed[j] := Array.getElem?_eq_getElem hj
    simp [Array.getD_eq_getD_getElem?, this]
  have someReady : ∀ (listed : Array Bool) (u : Nat), listed.size = ops.size → u < ops.size → listed.getD u false = false → Region.ready .any ops listed ≠ [] := by
    intro listed u hsz hu hun hre
    have all : ∀ j, j < ops.size → listed.getD j false = true := by
      intro j
      induction j using Nat.strongRecOn with
      | ind j ih =>
        intro hj
        cases hc : listed.getD j false with
        | true => rfl
        | false =>
          exfalso
          obtain ⟨o, ho⟩ : ∃ o, ops[j]? = some o := ⟨_, Array.getElem?_eq_getElem hj⟩
          have : j ∈ Region.ready .any ops listed := mem_ready.2 ⟨(ft listed j (by omega)).2 hc, o, ho, fun e he hb => ih e.on ((okN_at hN ho).2.1 e he hb) (by have := (okN_at hN ho).2.1 e he hb; omega)⟩
          rw [hre] at this; cases this
    have := all u hu
    rw [hun] at this; cases this
  have noSel : ∀ (j : Nat) (o : Oper), ops[j]? = some o → ∀ cs b, o.op ≠ .select cs b := fun j o ho cs b => Region.noSelect_spec hsel j o cs b ho
  intro fuel
  induction fuel with
  | zero =>
    intro listed a σ' w' hr hsz hcnt hB hC hD hph
    have hall : ∀ j, j < ops.size → listed.getD j false = true := by
      intro j hj
      have h2 : listed[j]? = some listed[j] := Array.getElem?_eq_getElem (by omega)
      cases hc : listed[j] with
      | true => simp [Array.getD_eq_getD_getElem?, h2, hc]
      | false =>
        have : false ∈ listed.toList := by rw [← hc]; simp
        have := List.count_pos_iff.2 this
        omega
    have := hall k hksz
    rw [hD k (Nat.le_refl _)] at this; cases this
  | succ fuel ih =>
    intro listed a σ' w' hr hsz hcnt hB hC hD hph
    by_cases hdone : listed.getD m false = true ∧ ∀ j, j < k → listed.getD j false = true
    · obtain ⟨hk1, hdone⟩ := hdone
      rcases hph with ⟨h, _⟩ | ⟨_, _, σs, vk, hA, hfs, _, hkv, hv⟩
      · rw [hk1] at h; cases h
      have hσ : σ' = put σs ((ops[m]?).bind (·.dst)) vk := by
        funext t
        rw [hokk, Option.bind_some]
        by_cases hkt : ok.dst = some t
        · rw [hkt, put_same]
          exact hkv ok t hokk hkt
        rw [put_at fun x hx e => hkt (by rw [e]; exact hx)]
        by_cases hex : ∃ (j : Nat) (o : Oper), j < k ∧ j ≠ m ∧ ops[j]? = some o ∧ o.dst = some t
        · obtain ⟨j, o, hj, hjm, ho, hd⟩ := hex
          exact hA j o t hj hjm ho hd (hdone j hj)
        · rw [hfs t fun j o hj hjm ho hd => hex ⟨j, o, hj, hjm, ho, hd⟩]
          refine hB t fun j o ho hd => ?_
          by_cases h : j < k
          · by_cases hjm : j = m
            · subst hjm; rw [hokk] at ho; cases ho; exact absurd hd hkt
            · exact absurd ⟨j, o, h, hjm, ho, hd⟩ hex
          · exact hD j (by omega)
      rw [← hσ] at hv
      refine sufK (ro := ro) (n := n) (ops := ops) (k := k) (K := K) (σ := σ0) hN hL hok hQ (ops.toList.drop k) k rfl (Nat.le_refl _) _ listed a σ' w' hsz hcnt (fun j hj => ?_) hr (fun i hi => ?_) hv
      · by_cases h : j < k
        · rw [hdone j h]; simp; omega
        · rw [hD j (by omega)]; simp; omega
      · exact hB i fun j o ho hd => absurd (List.mem_filterMap.2 ⟨strip ops o, List.mem_map.2 ⟨o, by have := Array.mem_of_getElem? ho; simpa using this, rfl⟩, hd⟩) hi
    have hun0 : ∃ u, u < ops.size ∧ listed.getD u false = false := by
      by_cases hk1 : listed.getD m false = true
      · apply Classical.byContradiction
        intro hno
        refine hdone ⟨hk1, fun j hj => ?_⟩
        cases hc : listed.getD j false with
        | true => rfl
        | false => exact absurd ⟨j, by omega, hc⟩ hno
      · exact ⟨m, by omega, by simpa using hk1⟩
    obtain ⟨u0, hu0, hu0'⟩ := hun0
    refine ⟨fun hre => absurd hre (someReady listed u0 hsz hu0 hu0'), fun i hi => ?_⟩
    obtain ⟨hun, o, ho, hall⟩ := mem_ready.1 hi
    have hlt : i < ops.size := (Array.getElem?_eq_some_iff.1 ho).1
    have hoko : okOper n ops o = true := List.all_eq_true.1 hok o (by have := Array.mem_of_getElem? ho; simpa using this)
    obtain ⟨q1, q2, q3⟩ := okN_at hN ho
    have hun' : listed.getD i false = false := (ft listed i (by omega)).1 hun
    have hcount : (listed.setIfInBounds i true).toList.count false = fuel := by
      have h1 : (listed.setIfInBounds i true).toList = listed.toList.set i true := by simp
      have hi' : i < listed.toList.length := by simp; omega
      have h2 : listed.toList[i] = false := by
        have h2 : listed[i]? = some listed[i] := Array.getElem?_eq_getElem (by omega)
        simp only [Array.getD_eq_getD_getElem?, h2, Option.getD_some] at hun
        simpa using hun
      rw [h1, List.count_set hi', h2, hcnt]
      simp
    have hik : i < k := by
      apply Classical.byContradiction
      intro hgt
      by_cases e : i = k
      · subst e
        have hj : ∀ q j, i - j = q → j < i → listed.getD j false = true := by
          intro q
          induction q using Nat.strongRecOn with
          | ind q ihq =>
            intro j hq' hj
            obtain ⟨i', hji, hik, o', ho', e, he, hb, hon⟩ := hsucc j hj
            by_cases hi'm : i' = i
            · rw [hi'm, ho] at ho'
              cases ho'
              rw [← hon]; exact hall e he hb
            · have := ihq (i - i') (by omega) i' rfl (by omega)
              rw [← hon]; exact hC i' o' ho' this e he hb
        exact hdone ⟨hj _ m rfl hmk, fun j hjk => hj _ j rfl hjk⟩
      · obtain ⟨o', ho', e', he, hb, hon⟩ := hchain i hlt (by omega)
        rw [ho] at ho'; cases ho'
        have h1 := hall e' he hb
        rw [hon, hD (i - 1) (by omega)] at h1; cases h1
    -- what the operation reads
    have hreads : ∀ σs : Env, (∀ (j : Nat) (o : Oper) (d : Nat), j < k → j ≠ m → ops[j]? = some o → o.dst = some d → listed.getD j false = true → σ' d = σs d) → (∀ t, (∀ (j : Nat) (o : Oper), j < k → j ≠ m → ops[j]? = some o → o.dst ≠ some t) → σs t = σ0 t) →
        (∀ t ∈ o.looksAt ops, ∀ (j : Nat) (o' : Oper), ops[j]? = some o' → o'.dst = some t → j < i ∧ j ≠ m) → ∀ t ∈ vReads (strip ops o), σ' t = σs t := by
      intro σs hA hfs hlt2 t ht
      have ht' := vReads_looksAt hoko ht
      by_cases hex : ∃ (j : Nat) (o' : Oper), j < k ∧ j ≠ m ∧ ops[j]? = some o' ∧ o'.dst = some t
      · obtain ⟨j, o', hjk, hjm, ho', hd⟩ := hex
        have hji := (hlt2 t ht' j o' ho' hd).1
        rcases q3 t ht' j o' ho' hd (by omega) with ⟨_, e, he, hb, hon⟩ | ⟨hlt3, _⟩
        · exact hA j o' t hjk hjm ho' hd (by rw [← hon]; exact hall e he hb)
        · omega
      · rw [hfs t fun j o' hj hjm ho' hd => hex ⟨j, o', hj, hjm, ho', hd⟩]
        refine hB t fun j o' ho' hd => ?_
        obtain ⟨h1, h2⟩ := hlt2 t ht' j o' ho' hd
        exact absurd ⟨j, o', by omega, h2, ho', hd⟩ hex
    by_cases him : i = m
    · -- the operation that changes memory
      subst him
      rw [hokk] at ho; cases ho
      obtain ⟨hl, hAp⟩ : Later w0 w' ∧ (∀ (j : Nat) (o : Oper) (d : Nat), j < k → j ≠ i → ops[j]? = some o → o.dst = some d → listed.getD j false = true → psi Ns σf d (σ' d) w') := by
        rcases hph with ⟨_, hl⟩ | ⟨h, _⟩
        · exact hl
        · rw [hun'] at h; cases h
      have hstrict : ∀ q j, i - j = q → j ∈ sList ops i i → j < i → listed.getD j false = true := by
        intro q
        induction q using Nat.strongRecOn with
        | ind q ihq =>
          intro j hm' hj hji
          rcases sList_at i (Nat.le_refl _) j hj with h | ⟨_, i', hi', h1, h2, o', ho', e, he, hb, hon⟩
          · omega
          · by_cases hi'm : i' = i
            · rw [hi'm, hokk] at ho'
              cases ho'
              rw [← hon]; exact hall e he hb
            · have := ihq (i - i') (by omega) i' rfl hi' (by omega)
              rw [← hon]; exact hC i' o' ho' this e he hb
      have hsall : ∀ j ∈ sList ops i i, j ≠ i → listed.getD j false = true := fun j hj hji => by
        rcases sList_at i (Nat.le_refl _) j hj with h | ⟨h, _⟩
        · exact absurd h hji
        · exact hstrict _ j rfl hj h
      obtain ⟨σs, hσs⟩ : ∃ σs : Env, ∀ t, σs t = if (findN t Ns).isSome then σ' t else σf t := ⟨_, fun _ => rfl⟩
      have hA : ∀ (j : Nat) (o : Oper) (d : Nat), j < k → j ≠ i → ops[j]? = some o → o.dst = some d → listed.getD j false = true → σ' d = σs d := by
        intro j o d hj hji ho hd hlj
        have := hAp j o d hj hji ho hd hlj
        rw [hσs]
        unfold psi at this
        cases hf : findN d Ns with
        | some V => rfl
        | none => rw [hf] at this; simpa using this
      have hfs : ∀ t, (∀ (j : Nat) (o : Oper), j < k → j ≠ i → ops[j]? = some o → o.dst ≠ some t) → σs t = σ0 t := by
        intro t ht
        obtain ⟨e1, e2⟩ := hfr0 t ht
        rw [hσs, e2]; simpa using e1
      have hrd : ∀ t ∈ vReads (strip ops ok), σ' t = σs t := fun t ht => hreads σs hA hfs (fun t ht j o' ho' hd => by have := hokr t ht j o' ho' hd; exact ⟨this, by omega⟩) t ht
      have hv := by
        refine nEnd_at (K := fun σ2 w2 => ∀ o, ops[i]? = some o → vcUp P (fun v w3 => (∀ (j : Nat) (o : Oper), j < k → j ≠ i → ops[j]? = some o → j ∉ sList ops i i → isLO o.guard.isNone o.op = true → lateAt P (strip ops o) σ2 w3) ∧ vcOps P ((ops.toList.drop k).map (strip ops)) K (put σ2 o.dst v) w3) (exe P o.op o.type σ2 w2)) (σ' := σs) Ns σf ?_ ?_ (hlast w' hl)
        · intro p hp
          have hf := huniq p hp
          rw [hσs, hf]
          show p.2 (σ' p.1) w'
          by_cases hex : ∃ (j : Nat) (o : Oper), j < k ∧ j ≠ i ∧ ops[j]? = some o ∧ o.dst = some p.1
          · obtain ⟨j, o, hj, hji, ho, hd⟩ := hex
            have hlj : listed.getD j false = true := by
              by_cases hin : j ∈ sList ops i i
              · exact hsall j hin hji
              · rcases hlate j o hj hji ho with h | ⟨h, _⟩
                · exact absurd h hin
                · have := hfree j o p.1 hj hji ho hin h hd
                  rw [hf] at this; cases this
            have := hAp j o p.1 hj hji ho hd hlj
            unfold psi at this
            rw [hf] at this; exact this
          · exfalso
            have := (hfr0 p.1 fun j o hj hji ho hd => hex ⟨j, o, hj, hji, ho, hd⟩).2
            rw [hf] at this; cases this
        · intro t ht
          rw [hσs, findN_mem ht]; rfl
      have hv := hv ok hokk
      have hnext : ∀ u w'', ((∀ (j : Nat) (o : Oper), j < k → j ≠ i → ops[j]? = some o → j ∉ sList ops i i → isLO o.guard.isNone o.op = true → lateAt P (strip ops o) σs w'') ∧ vcOps P ((ops.toList.drop k).map (strip ops)) K (put σs ok.dst u) w'') → wpAnyIn (Fw ro) 0 P .any ops Q fuel (listed.setIfInBounds i true) (a.put ok.dst u) w'' := by
        rintro u w'' ⟨hpur, h⟩
        refine ih _ _ (put σ' ok.dst u) w'' (hr.put (okOper_dst hoko) u) (by simpa using hsz) hcount ?_ ?_ ?_ (.inr ⟨by simp [show i < listed.size by omega], ?_, σs, u, ?_, hfs, hpur, ?_, by rw [hokk]; exact h⟩)
        · intro t ht
          have hne : ∀ x, ok.dst = some x → t ≠ x := by
            intro x hx e
            subst e
            have := ht i ok hokk hx
            have h3 : (listed.setIfInBounds i true).getD i false = true := by simp [show i < listed.size by omega]
            rw [h3] at this; cases this
          rw [put_at hne]
          refine hB t fun j o' ho' hd => ?_
          by_cases hji : j = i
          · subst hji; exact hun'
          · have := ht j o' ho' hd
            rwa [getD_set_ne false (Ne.symm hji)] at this
        · intro j o' ho' hlj e he hb
          by_cases hji : j = i
          · subst hji
            rw [hokk] at ho'; cases ho'
            exact getD_set_true (hall e he hb)
          · rw [getD_set_ne false (Ne.symm hji)] at hlj
            exact getD_set_true (hC j o' ho' hlj e he hb)
        · intro j hj
          rw [getD_set_ne false (by omega)]
          exact hD j hj
        · intro j hj
          by_cases hji : j = i
          · subst hji; simp [show j < listed.size by omega]
          · rw [getD_set_ne false (Ne.symm hji)]
            exact hsall j hj hji
        · intro j o' d hj hji ho' hd hlj
          rw [getD_set_ne false (Ne.symm hji)] at hlj
          rw [put_at fun x hx e => q1 j o' x ho' hji hx (by rw [hd, e])]
          exact hA j o' d hj hji ho' hd hlj
        · intro o' d ho' hd
          rw [hokk] at ho'; cases ho'
          rw [hd, put_same]
      have hw : Region.wanted ok (yielded ops a.tmps) = true := by simp [Region.wanted, hokg]
      unfold wpOpIn
      simp only [hokk]
      rw [if_pos hw]
      refine ⟨fun _ _ => trivial, ?_⟩
      rw [Oper.semAt_eq _ _ _ (okOper_defer hoko), exe_oper hr]
      rw [exe_congr (σ := σs) (noSel i ok hokk) (fun t ht => hrd t (by unfold vReads; exact List.mem_append_left _ ht))]
      exact vcUp_upon (ro := ro) hv fun v w'' hv => hnext v w'' hv
    · -- an operation ahead of it
      have adv : ∀ v w'', ((listed.getD m false = false ∧ Later w0 w'' ∧ Later w' w'' ∧ (∀ (j : Nat) (o : Oper) (d : Nat), j < k → j ≠ m → ops[j]? = some o → o.dst = some d → listed.getD j false = true → psi Ns σf d (σ' d) w') ∧ (∀ d, (strip ops o).dst = some d → psi Ns σf d v w'') ∧ Later w0 w') ∨
          (listed.getD m false = true ∧ (∀ j ∈ sList ops m m, listed.getD j false = true) ∧ ∃ σs vk, (∀ (j : Nat) (o : Oper) (d : Nat), j < k → j ≠ m → ops[j]? = some o → o.dst = some d → listed.getD j false = true → σ' d = σs d) ∧ (∀ t, (∀ (j : Nat) (o : Oper), j < k → j ≠ m → ops[j]? = some o → o.dst ≠ some t) → σs t = σ0 t) ∧ (∀ (j : Nat) (o : Oper), j < k → j ≠ m → ops[j]? = some o → j ∉ sList ops m m → isLO o.guard.isNone o.op = true → lateAt P (strip ops o) σs w'') ∧ (∀ o d, ops[m]? = some o → o.dst = some d → σ' d = vk) ∧ vcOps P ((ops.toList.drop k).map (strip ops)) K (put σs ((ops[m]?).bind (·.dst)) vk) w'' ∧ (∀ d, (strip ops o).dst = some d → v = σs d))) → wpAnyIn (Fw ro) 0 P .any ops Q fuel (listed.setIfInBounds i true) (a.put o.dst v) w'' := by
        intro v w'' hph'
        refine ih _ _ (put σ' o.dst v) w'' (hr.put (okOper_dst hoko) v) (by simpa using hsz) hcount ?_ ?_ ?_ ?_
        · intro t ht
          have hne : ∀ x, o.dst = some x → t ≠ x := by
            intro x hx e
            subst e
            have := ht i o ho hx
            have h3 : (listed.setIfInBounds i true).getD i false = true := by simp [show i < listed.size by omega]
            rw [h3] at this; cases this
          rw [put_at hne]
          refine hB t fun j o' ho' hd => ?_
          by_cases hji : j = i
          · subst hji
            rw [ho] at ho'; cases ho'
            exact absurd rfl (hne t hd)
          · have := ht j o' ho' hd
            rwa [getD_set_ne false (Ne.symm hji)] at this
        · intro j o' ho' hlj e he hb
          by_cases hji : j = i
          · subst hji
            rw [ho] at ho'; cases ho'
            exact getD_set_true (hall e he hb)
          · rw [getD_set_ne false (Ne.symm hji)] at hlj
            exact getD_set_true (hC j o' ho' hlj e he hb)
        · intro j hj
          rw [getD_set_ne false (by omega)]
          exact hD j hj
        · rw [getD_set_ne false him]
          rcases hph' with ⟨h1, h2, h3, h4, h5, h6⟩ | ⟨h1, h2, σs, vk, h3, h4, h5, hkv, h6, h7⟩
          · refine .inl ⟨h1, h2, fun j o' d hj hjm ho' hd hlj => ?_⟩
            by_cases hji : j = i
            · subst hji
              rw [ho] at ho'
              cases ho'
              rw [hd, put_same]
              exact h5 d hd
            · rw [getD_set_ne false (Ne.symm hji)] at hlj
              rw [put_at fun x hx e => q1 j o' x ho' hji hx (by rw [hd, e])]
              exact psi_later hst h6 h3 (h4 j o' d hj hjm ho' hd hlj)
          · refine .inr ⟨h1, fun j hj => getD_set_true (h2 j hj), σs, vk, fun j o' d hj hjm ho' hd hlj => ?_, h4, h5, fun o' d ho' hd => (by rw [put_at fun x hx e => q1 m o' x ho' (Ne.symm him) hx (by rw [hd, e])]; exact hkv o' d ho' hd), h6⟩
            by_cases hji : j = i
            · subst hji
              rw [ho] at ho'
              cases ho'
              rw [hd, put_same]
              exact h7 d hd
            · rw [getD_set_ne false (Ne.symm hji)] at hlj
              rw [put_at fun x hx e => q1 j o' x ho' hji hx (by rw [hd, e])]
              exact h3 j o' d hj hjm ho' hd hlj
      rcases hph with ⟨hk0, hl, hAp⟩ | ⟨hk1, hst', σs, vk, hA, hfs, hpur, hkv, hv⟩
      · -- memory has not been changed yet
        obtain ⟨Nsj, σj, hfact, hbe, hno⟩ := hfacts i o hik him ho
        have hnm : ∀ t ∈ o.looksAt ops, ∀ (j : Nat) (o' : Oper), j < i → ops[j]? = some o' → o'.dst = some t → j ≠ m := by
          intro t ht j o' hji ho' hd hjm
          rcases hlate i o hik him ho with hin | ⟨_, hrl⟩
          · rcases sList_at m (Nat.le_refl _) i hin with h | ⟨h, _⟩
            · exact him h
            · omega
          · exact (hrl t ht j o' ho' hd).2 hjm
        have hrd : ∀ t ∈ vReads (strip ops o), psi Nsj σj t (σ' t) w' := by
          intro t ht
          have ht' := vReads_looksAt hoko ht
          by_cases hex : ∃ (j : Nat) (o' : Oper), j < i ∧ j ≠ m ∧ ops[j]? = some o' ∧ o'.dst = some t
          · obtain ⟨e1, e2⟩ := hbe t hex
            obtain ⟨j, o', hji, hjm, ho', hd⟩ := hex
            rw [psi_eq e2 e1]
            rcases q3 t ht' j o' ho' hd (by omega) with ⟨_, e, he, hb, hon⟩ | ⟨hlt, _⟩
            · exact hAp j o' t (by omega) hjm ho' hd (by rw [← hon]; exact hall e he hb)
            · omega
          · have hno0 : ∀ (j : Nat) (o' : Oper), j < i → j ≠ m → ops[j]? = some o' → o'.dst ≠ some t := fun j o' hji hjm ho' hd => hex ⟨j, o', hji, hjm, ho', hd⟩
            have hno' : ∀ (j : Nat) (o' : Oper), j < i → ops[j]? = some o' → o'.dst ≠ some t := fun j o' hji ho' hd => hno0 j o' hji (hnm t ht' j o' hji ho' hd) ho' hd
            obtain ⟨e1, e2⟩ := hno t hno0
            unfold psi
            rw [e2, e1]
            refine hB t fun j o' ho' hd => ?_
            by_cases hji : j = i
            · rw [hji]; exact hun'
            · rcases q3 t ht' j o' ho' hd hji with ⟨hlt, _⟩ | ⟨_, e, he, hb, hon⟩
              · exact absurd hd (hno' j o' hlt ho')
              · cases hlj : listed.getD j false with
                | false => rfl
                | true =>
                  have := hC j o' ho' hlj e he hb
                  rw [hon, hun'] at this; cases this
        have hf := hfact σ' w' hl hrd
        unfold wpOpIn
        simp only [ho]
        rcases wanted_eq hr hoko hf with ⟨hw, h⟩ | ⟨hw, h⟩
        · rw [if_pos hw]
          refine ⟨fun _ _ => trivial, ?_⟩
          rw [Oper.semAt_eq _ _ _ (okOper_defer hoko), exe_oper hr]
          have h : nUp P w' (fun v w'' => ∀ d, (strip ops o).dst = some d → psi Ns σf d v w'') (exe P o.op o.type σ' w') := h
          generalize exe P o.op o.type σ' w' = r at h ⊢
          cases r with
          | halt => exact h.elim
          | ok nx w2 =>
            cases nx with
            | value u => exact adv u w2 (.inl ⟨hk0, hl.trans h.1, h.1, hAp, h.2, hl⟩)
            | skip => exact adv undef w2 (.inl ⟨hk0, hl.trans h.1, h.1, hAp, h.2, hl⟩)
            | enter f args =>
              obtain ⟨rfl, h⟩ := h
              refine ⟨fun x => by simp [Fw] at x, ?_⟩
              refine (callsIn_Fw ro _).2 (Calls.mono h ?_)
              rintro e w'' ⟨v, rfl, hl', hp⟩
              exact adv v w'' (.inl ⟨hk0, hl.trans hl', hl', hAp, hp, hl⟩)
            | _ => exact h.elim
        · rw [if_neg (by simp [hw])]
          exact ⟨fun _ _ => trivial, adv undef w' (.inl ⟨hk0, hl, Later.refl _, hAp, h, hl⟩)⟩
      · -- memory has been changed: the operation hangs on no world
        have hnin : i ∉ sList ops m m := fun hin => by
          have := hst' i hin
          rw [hun'] at this; cases this
        rcases hlate i o hik him ho with hin | ⟨hpo, hrl⟩
        · exact absurd hin hnin
        have hrd : ∀ t ∈ vReads (strip ops o), σ' t = σs t := fun t ht => hreads σs hA hfs hrl t ht
        have hp := hpur i o hik him ho hnin hpo
        have hgn : o.guard = none := by
          unfold isLO at hpo
          simp only [Bool.and_eq_true] at hpo
          exact Option.isNone_iff_eq_none.1 hpo.1
        have hw : Region.wanted o (yielded ops a.tmps) = true := by simp [Region.wanted, hgn]
        unfold wpOpIn
        simp only [ho]
        rw [if_pos hw]
        refine ⟨fun _ _ => trivial, ?_⟩
        rw [Oper.semAt_eq _ _ _ (okOper_defer hoko), exe_oper hr]
        rw [exe_congr (σ := σs) (noSel i o ho) (fun t ht => hrd t (by unfold vReads; exact List.mem_append_left _ ht))]
        refine vcUp_upon (ro := ro) (vcOp_sound _ _ hp) fun v w'' hv2 => ?_
        obtain ⟨h1, rfl⟩ := hv2
        exact adv v w'' (.inr ⟨hk1, hst', σs, vk, hA, hfs, hpur, hkv, hv, h1⟩)
theorem lates_at {σ : Env} {w : World} {ls : List Nat} : ∀ (ol : List (VOp × List Nat)), lates P σ w ls ol → ∀ o ∈ ol, isLO o.1.guard.isNone o.1.op = true → latO ls o.1 = true → lateAt P o.1 σ w
  | [], _, o, ho, _, _ => by cases ho
  | x :: l, h, o, ho, hp, hq => by
    obtain ⟨h1, h2⟩ := h
    rcases List.mem_cons.1 ho with rfl | ho
    · unfold pureIf at h1; rw [hp, hq, Bool.and_self, if_pos rfl] at h1; exact h1
    · exact lates_at l h2 o ho hp hq
theorem mem_lateT {ops : Array Oper} {m k j d : Nat} {o : Oper} (hj : j < k) (hjm : j ≠ m) (ho : ops[j]? = some o) (hn : j ∉ sList ops m m) (hd : o.dst = some d) : d ∈ lateT ops m k := by
  refine List.mem_filterMap.2 ⟨j, List.mem_range.2 hj, ?_⟩
  rw [if_neg (by simp [hn, hjm]), ho]
  exact hd
theorem wf_cut : ∀ (A B : List (VOp × List Nat)), Wf (A ++ B) → Wf A
  | [], _, _ => trivial
  | x :: A, B, ⟨h1, h2, h3, h4⟩ => ⟨fun d hd hd' => h1 d hd (by
      show d ∈ dsts (A ++ B)
      unfold dsts at hd' ⊢
      rw [List.filterMap_append]
      exact List.mem_append_left _ hd'), h2, h3, wf_cut A B h4⟩
theorem wf_out (x : VOp × List Nat) : ∀ (A B : List (VOp × List Nat)), Wf (A ++ x :: B) → Wf (A ++ B)
  | [], _, ⟨_, _, _, h4⟩ => h4
  | y :: A, B, ⟨h1, h2, h3, h4⟩ => ⟨fun d hd hd' => h1 d hd (by
      show d ∈ dsts (A ++ x :: B)
      have hd' : d ∈ dsts (A ++ B) := hd'
      unfold dsts at hd' ⊢
      rw [List.filterMap_append] at hd' ⊢
      rcases List.mem_append.1 hd' with h | h
      · exact List.mem_append_left _ h
      · refine List.mem_append_right _ ?_
        rw [List.filterMap_cons]
        split
        · exact h
        · exact List.mem_cons_of_mem _ h), h2, h3, wf_out x A B h4⟩
def posT (m j : Nat) : Nat := if j < m then j else j - 1
theorem pre_at {α : Type} {l : List α} {m k : Nat} (hm : m < k) (hk : k ≤ l.length) {j : Nat} (hj : j < k) (hjm : j ≠ m) : (l.take m ++ (l.drop (m + 1)).take (k - (m + 1)))[posT m j]? = l[j]? := by
  unfold posT
  by_cases h : j < m
  · rw [if_pos h, List.getElem?_append_left (by simp; omega), List.getElem?_take_of_lt h]
  · rw [if_neg h, List.getElem?_append_right (by simp; omega), List.getElem?_take_of_lt (by simp; omega), List.getElem?_drop]
    congr 1
    simp
    omega
theorem pre_take {α : Type} {l : List α} {m k : Nat} (hm : m < k) (hk : k ≤ l.length) {j : Nat} (hj : j < k) (hjm : j ≠ m) {x : α} : x ∈ (l.take m ++ (l.drop (m + 1)).take (k - (m + 1))).take (posT m j) ↔ ∃ i, i < j ∧ i ≠ m ∧ l[i]? = some x := by
  constructor
  · intro h
    obtain ⟨q, hq⟩ := List.getElem?_of_mem h
    have hql : q < posT m j := by
      by_cases hlt : q < posT m j
      · exact hlt
      · rw [List.getElem?_take, if_neg hlt] at hq; cases hq
    rw [List.getElem?_take_of_lt hql] at hq
    unfold posT at hql
    by_cases hqm : q < m
    · refine ⟨q, by split at hql <;> omega, by omega, ?_⟩
      rw [List.getElem?_append_left (by simp; omega), List.getElem?_take_of_lt hqm] at hq
      exact hq
    · rw [if_neg (by split at hql <;> omega)] at hql
      refine ⟨q + 1, by omega, by omega, ?_⟩
      rw [List.getElem?_append_right (by simp; omega), List.getElem?_take_of_lt (by simp; omega), List.getElem?_drop] at hq
      rw [← hq]
      congr 1
      simp
      omega
  · rintro ⟨i, hij, him, hi⟩
    refine List.mem_of_getElem? (i := posT m i) ?_
    rw [List.getElem?_take_of_lt (by unfold posT; split <;> split <;> omega), pre_at hm hk (by omega) him]
    exact hi
theorem drawn_soundT {ro : Option Nat} {n : Nat} {l : List Oper} {m k id : Nat} {K : Env → World → Prop} {σ : Env} {w : World} {a : Act} {ds : List Deferred} {Q : Exit → Act → World → Prop} (hm : P.follows .mixedOrders = true) (hlex : Region.lexB .any l.toArray = true) (hN : okN l.toArray = true) (hS : okT l.toArray m k = true)
    (hok : l.all (okOper n l.toArray) = true) (hr : Rep n a ds σ) (h : nOps P (preT m k (withReads (l.map (strip l.toArray)))) [] (tailT P (withReads (l.map (strip l.toArray))) m k (lateT l.toArray m k) K w) σ w)
    (hQ : ∀ a' σ' w', Rep n a' ds σ' → (∀ i, i ∉ (l.map (strip l.toArray)).filterMap (·.dst) → σ' i = σ i) → K σ' w' → Q .normal a' w') : (Code.region id l.toArray true).wpIn (Fw ro) 0 P Q a w := by
  have hsel : Region.noSelect l.toArray = true := by simp only [Region.lexB, Bool.and_eq_true] at hlex; exact hlex.1
  obtain ⟨hmk, hL, ⟨om, hom, _, _⟩, _⟩ := okT_at hS
  obtain ⟨hksz, _, _⟩ := okK_at hL
  have hkl : k < l.length := by simpa using hksz
  have hpl : preT m k (withReads (l.map (strip l.toArray))) = withReads ((l.take m ++ (l.drop (m + 1)).take (k - (m + 1))).map (strip l.toArray)) := by unfold preT withReads; simp
  have hget : ∀ j, j < k → j ≠ m → (l.take m ++ (l.drop (m + 1)).take (k - (m + 1)))[posT m j]? = l.toArray[j]? := by
    intro j hj hjm
    rw [pre_at hmk (by omega) hj hjm]; simp
  have hwf : Wf (preT m k (withReads (l.map (strip l.toArray)))) := by
    have hall := wf_of (n := n) hN hsel l 0 (fun k => by simp) hok
    generalize hW : withReads (l.map (strip l.toArray)) = W at *
    have hWl : W.length = l.length := by rw [← hW]; unfold withReads; simp
    have e1 : W = W.take m ++ (W[m]'(by omega)) :: W.drop (m + 1) := by rw [List.getElem_cons_drop, List.take_append_drop]
    rw [e1] at hall
    have h2 := wf_out _ _ _ hall
    have e2 : W.take m ++ W.drop (m + 1) = (W.take m ++ (W.drop (m + 1)).take (k - (m + 1))) ++ (W.drop (m + 1)).drop (k - (m + 1)) := by rw [List.append_assoc, List.take_append_drop]
    rw [e2] at h2
    exact wf_cut _ _ h2
  obtain ⟨Ns, σf, hK, hfr, ⟨hst, huniq⟩, hfacts⟩ := nOps_facts (P := P) _ [] σ hwf (fun _ _ => rfl) ⟨fun t V hf => by simp [findN] at hf, by simp⟩ h
  obtain ⟨hfree, hlast⟩ := hK
  have hmemP : ∀ (o : Oper), o ∈ (l.take m ++ (l.drop (m + 1)).take (k - (m + 1))) → ∃ j, j < k ∧ j ≠ m ∧ l.toArray[j]? = some o := by
    intro o ho
    rcases List.mem_append.1 ho with ho | ho
    · obtain ⟨q, hq⟩ := List.getElem?_of_mem ho
      have hqm : q < m := by
        by_cases hlt : q < m
        · exact hlt
        · rw [List.getElem?_take, if_neg hlt] at hq; cases hq
      rw [List.getElem?_take_of_lt hqm] at hq
      exact ⟨q, by omega, by omega, by simpa using hq⟩
    · obtain ⟨q, hq⟩ := List.getElem?_of_mem ho
      have hqm : q < k - (m + 1) := by
        by_cases hlt : q < k - (m + 1)
        · exact hlt
        · rw [List.getElem?_take, if_neg hlt] at hq; cases hq
      rw [List.getElem?_take_of_lt hqm, List.getElem?_drop] at hq
      exact ⟨m + 1 + q, by omega, by omega, by simpa using hq⟩
  have hnd : ∀ t, (∀ (j : Nat) (o : Oper), j < k → j ≠ m → l.toArray[j]? = some o → o.dst ≠ some t) → t ∉ dsts (preT m k (withReads (l.map (strip l.toArray)))) := by
    intro t ht hd
    rw [hpl] at hd
    obtain ⟨i, o, hk, hd'⟩ := dsts_at (ops := l.toArray) _ hd
    obtain ⟨j, h1, h2, h3⟩ := hmemP o (List.mem_of_getElem? hk)
    exact ht j o h1 h2 h3 hd'
  refine wpIn_region_any hm ?_
  have hl0' : Later w { w with drawn := w.drawn + 1 } := ⟨rfl, rfl, rfl, Nat.le_refl _, fun _ _ => rfl⟩
  have hpre : ∀ (j : Nat) (o : Oper), j < k → j ≠ m → l.toArray[j]? = some o → (strip l.toArray o, vReads (strip l.toArray o)) ∈ preT m k (withReads (l.map (strip l.toArray))) := by
    intro j o hj hjm ho
    rw [hpl]
    have hj' := (hget j hj hjm).trans ho
    refine List.mem_of_getElem? (i := posT m j) ?_
    unfold withReads
    rw [List.getElem?_map, List.getElem?_map, hj']
    rfl
  refine orderT (ro := ro) (P := P) (Ns := Ns) (σ0 := σ) (σf := σf) (w0 := w) (ds := ds) (n := n) (m := m) (k := k) (K := K) hN hS (by simpa using hok) hsel hst huniq (fun t ht => ⟨(hfr t (hnd t ht)).1, by rw [(hfr t (hnd t ht)).2]; rfl⟩) (fun j o hj hjm ho => ?_) (fun j o d hj hjm ho hn hp hd => ?_) (fun w' hl => ?_) (by simpa using hQ) _ _ a σ _ hr (by simp) (by simp) ?_ ?_ ?_ (.inl ⟨?_, hl0', ?_⟩)
  · have hj' := (hget j hj hjm).trans ho
    obtain ⟨Nsj, σj, hf, h1, h2⟩ := hfacts (posT m j) (strip l.toArray o, vReads (strip l.toArray o)) (by rw [hpl]; unfold withReads; rw [List.getElem?_map, List.getElem?_map, hj']; rfl)
    have htake : ∀ t, t ∈ dsts ((preT m k (withReads (l.map (strip l.toArray)))).take (posT m j)) ↔ ∃ (i : Nat) (o' : Oper), i < j ∧ i ≠ m ∧ l.toArray[i]? = some o' ∧ o'.dst = some t := by
      intro t
      have e : (preT m k (withReads (l.map (strip l.toArray)))).take (posT m j) = withReads (((l.take m ++ (l.drop (m + 1)).take (k - (m + 1))).take (posT m j)).map (strip l.toArray)) := by rw [hpl]; unfold withReads; simp only [List.map_take]
      rw [e]
      constructor
      · intro h
        obtain ⟨i, o', hk, hd⟩ := dsts_at (ops := l.toArray) _ h
        obtain ⟨q, h3, h4, h5⟩ := (pre_take hmk (by omega) hj hjm).1 (List.mem_of_getElem? hk)
        exact ⟨q, o', h3, h4, by simpa using h5, hd⟩
      · rintro ⟨i, o', hij, him, ho', hd⟩
        unfold dsts withReads
        simp only [List.map_map, List.filterMap_map, List.mem_filterMap]
        exact ⟨o', (pre_take hmk (by omega) hj hjm).2 ⟨i, hij, him, by simpa using ho'⟩, hd⟩
    refine ⟨Nsj, σj, hf, fun t ht => h1 t ((htake t).2 ht), fun t ht => ?_⟩
    obtain ⟨e1, e2⟩ := h2 t (fun h => by obtain ⟨i, o', hij, him, ho', hd⟩ := (htake t).1 h; exact ht i o' hij him ho' hd)
    exact ⟨e1, by rw [e2]; rfl⟩
  · exact freeN_at _ hfree d (mem_lateT hj hjm ho hn hd)
  · have := hlast w' hl
    refine nEnd_mono (fun σ2 w2 h o ho => ?_) Ns _ this
    have h0 := h (strip l.toArray o, vReads (strip l.toArray o)) (by
      unfold withReads
      have : l[m]? = some o := by simpa using ho
      rw [List.getElem?_map, List.getElem?_map, this]; rfl)
    refine vcUp_mono (vcOp_sound _ _ h0) ?_
    rintro v w3 ⟨hl3, hv3⟩
    refine ⟨fun j o' hj hjm ho' hn hp => ?_, ?_⟩
    · refine lates_at _ hl3 _ (hpre j o' hj hjm ho') ?_ ?_
      · unfold strip
        simpa using hp
      · show latO _ (strip l.toArray o') = true
        unfold latO strip
        cases hd : o'.dst with
        | none => rfl
        | some d => exact memL_iff (mem_lateT hj hjm ho' hn hd)
    · have hdr : ((withReads (l.map (strip l.toArray))).drop k).map (·.1) = (l.drop k).map (strip l.toArray) := by unfold withReads; simp [Function.comp_def]
      rw [hdr] at hv3
      have hds : (strip l.toArray o).dst = o.dst := rfl
      rw [hds] at hv3
      simpa using hv3
  · intro t _; rfl
  · intro j o ho hlj
    exfalso
    simp only [Array.getD_eq_getD_getElem?, Array.getElem?_replicate] at hlj
    split at hlj <;> simp at hlj
  · intro j hj
    simp only [Array.getD_eq_getD_getElem?, Array.getElem?_replicate]
    split <;> rfl
  · simp only [Array.getD_eq_getD_getElem?, Array.getElem?_replicate]
    split <;> rfl
  · intro j o d _ _ ho hd hlj
    exfalso
    simp only [Array.getD_eq_getD_getElem?, Array.getElem?_replicate] at hlj
    split at hlj <;> simp at hlj
end Go.Vc
end
section
namespace Go.Vc
open Go.RowKit Go.Sort
variable {P : Program}
theorem depsOf_at {ops : Array Oper} {j : Nat} {o : Oper} (ho : ops[j]? = some o) : ∃ ds, (depsOf ops)[j]? = some ds ∧ ∀ i, i ∈ ds ↔ ∃ e ∈ o.after, Region.binds .any e = true ∧ e.on = i := by
  refine ⟨(o.after.toList.filter fun e => Region.binds .any e).map (·.on), by unfold depsOf; simp [ho], fun i => ?_⟩
  simp only [List.mem_map, List.mem_filter, Array.mem_toList_iff]
  constructor
  · rintro ⟨e, ⟨h1, h2⟩, h3⟩; exact ⟨e, h1, h2, h3⟩
  · rintro ⟨e, h1, h2, h3⟩; exact ⟨e, ⟨h1, h2⟩, h3⟩
theorem orderA {ro : Option Nat} {n : Nat} {ops : Array Oper} {I : (Nat → Bool) → Env → World → Prop} {K : Env → World → Prop} {ds : List Deferred} {σ0 : Env} {Q : Exit → Act → World → Prop} (hN : okN ops = true) (hok : ops.toList.all (okOper n ops) = true)
    (hstep : ∀ (D : Nat → Bool) (σ1 : Env) (w1 : World) (j : Nat) (o : VOp), (∀ i, D i = true → waitsOk (depsOf ops) D i) → I D σ1 w1 → (ops.toList.map (strip ops))[j]? = some o → D j = false → waitsOk (depsOf ops) D j → vcOps P [o] (I (fun i => i == j || D i)) σ1 w1)
    (hend : ∀ (D : Nat → Bool) (σ1 : Env) (w1 : World), I D σ1 w1 → (∀ j, j < ops.size → D j = true) → K σ1 w1)
    (hQ : ∀ a' σ' w', Rep n a' ds σ' → (∀ i, i ∉ (ops.toList.map (strip ops)).filterMap (·.dst) → σ' i = σ0 i) → K σ' w' → Q .normal a' w') :
    ∀ (fuel : Nat) (listed : Array Bool) (a : Act) (σ' : Env) (w' : World), Rep n a ds σ' → listed.size = ops.size → listed.toList.count false = fuel →
      I (fun j => listed.getD j false) σ' w' → (∀ i, i ∉ (ops.toList.map (strip ops)).filterMap (·.dst) → σ' i = σ0 i) →
      (∀ (j : Nat) (o : Oper), ops[j]? = some o → listed.getD j false = true → ∀ e ∈ o.after, Region.binds .any e = true → listed.getD e.on false = true) → wpAnyIn (Fw ro) 0 P .any ops Q fuel listed a w' := by
  have ft : ∀ (listed : Array Bool) (j : Nat), j < listed.size → (listed.getD j true = false ↔ listed.getD j false = false) := by
    intro listed j hj
    have : listed[j]? = some listed[j] := Array.getElem?_eq_getElem hj
    simp [Array.getD_eq_getD_getElem?, this]
  have done : ∀ (listed : Array Bool), listed.size = ops.size → Region.ready .any ops listed = [] → ∀ j, j < ops.size → listed.getD j false = true := by
    intro listed hsz hre j
    induction j using Nat.strongRecOn with
    | ind j ih =>
      intro hj
      cases hc : listed.getD j false with
      | true => rfl
      | false =>
        exfalso
        obtain ⟨o, ho⟩ : ∃ o, ops[j]? = some o := ⟨_, Array.getElem?_eq_getElem hj⟩
        have : j ∈ Region.ready .any ops listed := mem_ready.2 ⟨(ft listed j (by omega)).2 hc, o, ho, fun e he hb => ih e.on ((okN_at hN ho).2.1 e he hb) (by have := (okN_at hN ho).2.1 e he hb; omega)⟩
        rw [hre] at this; cases this
  have fin : ∀ (listed : Array Bool) (a : Act) (σ' : Env) (w' : World), Rep n a ds σ' → listed.size = ops.size → I (fun j => listed.getD j false) σ' w' → (∀ i, i ∉ (ops.toList.map (strip ops)).filterMap (·.dst) → σ' i = σ0 i) → Region.ready .any ops listed = [] → Q .normal a w' :=
    fun listed a σ' w' hr hsz hI hf hre => hQ a σ' w' hr hf (hend _ _ _ hI fun j hj => done listed hsz hre j hj)
  intro fuel
  induction fuel with
  | zero =>
    intro listed a σ' w' hr hsz hcnt hI hf _
    have hre : Region.ready .any ops listed = [] := by
      apply List.eq_nil_iff_forall_not_mem.2
      intro j hj
      have h1 := (mem_ready.1 hj).1
      rcases Nat.lt_or_ge j listed.size with h' | h'
      · have h2 : listed[j]? = some listed[j] := Array.getElem?_eq_getElem h'
        simp only [Array.getD_eq_getD_getElem?, h2, Option.getD_some] at h1
        have : false ∈ listed.toList := by rw [← h1]; simp
        have := List.count_pos_iff.2 this
        omega
      · simp [Array.getElem?_eq_none h'] at h1
    exact ⟨hre, fin listed a σ' w' hr hsz hI hf hre⟩
  | succ fuel ih =>
    intro listed a σ' w' hr hsz hcnt hI hf hC
    refine ⟨fun hre => fin listed a σ' w' hr hsz hI hf hre, fun i hi => ?_⟩
    obtain ⟨hun, o, ho, hall⟩ := mem_ready.1 hi
    have hlt : i < ops.size := (Array.getElem?_eq_some_iff.1 ho).1
    have hoko : okOper n ops o = true := List.all_eq_true.1 hok o (by have := Array.mem_of_getElem? ho; simpa using this)
    have hun' : listed.getD i false = false := (ft listed i (by omega)).1 hun
    have hcount : (listed.setIfInBounds i true).toList.count false = fuel := by
      have h1 : (listed.setIfInBounds i true).toList = listed.toList.set i true := by simp
      have hi' : i < listed.toList.length := by simp; omega
      have h2 : listed.toList[i] = false := by
        have h2 : listed[i]? = some listed[i] := Array.getElem?_eq_getElem (by omega)
        simp only [Array.getD_eq_getD_getElem?, h2, Option.getD_some] at hun
        simpa using hun
      rw [h1, List.count_set hi', h2, hcnt]
      simp
    have hv := hstep (fun j => listed.getD j false) σ' w' i (strip ops o) (fun j hj dl hdl k hk => by
        cases hoj : ops[j]? with
        | none => rw [show (depsOf ops)[j]? = none from by unfold depsOf; simp [hoj]] at hdl; cases hdl
        | some oj =>
          obtain ⟨ds', h1, h2⟩ := depsOf_at hoj
          rw [h1] at hdl; cases hdl
          obtain ⟨e, he, hb, rfl⟩ := (h2 k).1 hk
          exact hC j oj hoj hj e he hb) hI (by simp [ho]) hun' (fun dl hdl k hk => by
        obtain ⟨ds', h1, h2⟩ := depsOf_at ho
        rw [h1] at hdl; cases hdl
        obtain ⟨e, he, hb, rfl⟩ := (h2 k).1 hk
        exact hall e he hb)
    have hnext : ∀ u w'', I (fun k => k == i || listed.getD k false) (put σ' o.dst u) w'' → wpAnyIn (Fw ro) 0 P .any ops Q fuel (listed.setIfInBounds i true) (a.put o.dst u) w'' := by
      intro u w'' h
      have e1 : (fun k => (listed.setIfInBounds i true).getD k false) = (fun k => k == i || listed.getD k false) := by
        funext k
        by_cases hki : k = i
        · subst hki; simp [show k < listed.size by omega]
        · rw [getD_set_ne false (Ne.symm hki)]; simp [hki]
      refine ih _ _ (put σ' o.dst u) w'' (hr.put (okOper_dst hoko) u) (by simpa using hsz) hcount (by rw [e1]; exact h) ?_ ?_
      · intro t ht
        rw [put_at fun x hx e => ht (by subst e; exact List.mem_filterMap.2 ⟨strip ops o, List.mem_map.2 ⟨o, by have := Array.mem_of_getElem? ho; simpa using this, rfl⟩, hx⟩)]
        exact hf t ht
      · intro j o' ho' hlj e he hb
        by_cases hji : j = i
        · subst hji
          rw [ho] at ho'; cases ho'
          exact getD_set_true (hall e he hb)
        · rw [getD_set_ne false (Ne.symm hji)] at hlj
          exact getD_set_true (hC j o' ho' hlj e he hb)
    simp only [vcOps] at hv
    unfold wpOpIn
    simp only [ho]
    rcases wanted_eq hr hoko hv with ⟨hw, h⟩ | ⟨hw, h⟩
    · rw [if_pos hw]
      refine ⟨fun _ _ => trivial, ?_⟩
      rw [Oper.semAt_eq _ _ _ (okOper_defer hoko), exe_oper hr]
      exact vcUp_upon (ro := ro) (vcOp_sound _ _ h) fun v w'' hv => hnext v w'' hv
    · rw [if_neg (by simp [hw])]
      exact ⟨fun _ _ => trivial, hnext undef w' h⟩
theorem drawn_soundA {ro : Option Nat} {n : Nat} {l : List Oper} {id : Nat} {K : Env → World → Prop} {σ : Env} {w : World} {a : Act} {ds : List Deferred} {Q : Exit → Act → World → Prop} (hm : P.follows .mixedOrders = true) (hN : okN l.toArray = true)
    (hok : l.all (okOper n l.toArray) = true) (hr : Rep n a ds σ) (h : anyA P (l.map (strip l.toArray)) (depsOf l.toArray) K σ w)
    (hQ : ∀ a' σ' w', Rep n a' ds σ' → (∀ i, i ∉ (l.map (strip l.toArray)).filterMap (·.dst) → σ' i = σ i) → K σ' w' → Q .normal a' w') : (Code.region id l.toArray true).wpIn (Fw ro) 0 P Q a w := by
  obtain ⟨I, h0, hstep, hend⟩ := h
  refine wpIn_region_any hm ?_
  have hl0 : Later w { w with drawn := w.drawn + 1 } := ⟨rfl, rfl, rfl, Nat.le_refl _, fun _ _ => rfl⟩
  refine orderA (ro := ro) (P := P) (σ0 := σ) (ds := ds) (n := n) (I := I) (K := K) hN (by simpa using hok) (by simpa using hstep) ?_ ?_ _ _ a σ _ hr (by simp) (by simp) ?_ (fun _ _ => rfl) ?_
  · intro D σ1 w1 hI hall
    exact hend D σ1 w1 hI (by simpa using hall)
  · simpa using hQ
  · have e : (fun j => (Array.replicate l.toArray.size false).getD j false) = fun _ => false := by
      funext j
      rw [Array.getD_eq_getD_getElem?]
      by_cases hj : j < l.toArray.size
      · rw [Array.getElem?_replicate, if_pos hj]; rfl
      · rw [Array.getElem?_replicate, if_neg hj]; rfl
    rw [e]
    exact h0 _ hl0
  · intro j o ho hlj
    exfalso
    rw [Array.getD_eq_getD_getElem?, Array.getElem?_replicate] at hlj
    split at hlj <;> simp at hlj
end Go.Vc
end
