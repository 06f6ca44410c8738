/- The soundness of the generator of verification conditions: code, functions. -/
import Derived.Test.YtkchefbnamiikaaVcDraw
namespace Go.Vc
open Go.RowKit Go.Sort
variable {P : Program}

/-! ### code -/
theorem mem_dsts {ops : Array Oper} {l : List Oper} : ∀ o ∈ l, ∀ x, o.dst = some x → x ∈ (l.map (strip ops)).filterMap (·.dst) := by
  intro o ho x hx
  exact List.mem_filterMap.2 ⟨strip ops o, List.mem_map_of_mem ho, by simp [strip, hx]⟩
theorem vc_sound {n : Nat} (hm : P.follows .mixedOrders = true) (c : Code) : ∀ (ro : Option Nat) (Q : Post) (ds : List Deferred) (σ : Env) (w : World) (a : Act), (ro = none ∨ noDraw (abs n c) = true) → Rep n a ds σ →
    vc P (abs n c) Q ds σ w → c.wpIn (Fw ro) 0 P (lift n (Fr (writes (abs n c)) σ Q)) a w := by
  induction c with
  | skip => intro ro Q ds σ w a _ hr h; exact wpIn_skip ⟨ds, σ, hr, h, fun _ _ => rfl⟩
  | region id ops d =>
    intro ro Q ds σ w a hro hr h
    simp only [abs] at h hro ⊢
    split at h
    · rename_i hok
      rw [if_pos hok]
      split at h
      · rename_i hd
        split at h
        · rename_i hlex
          subst hd
          rw [if_pos hok, if_pos rfl, if_pos hlex] at hro
          rw [if_pos rfl, if_pos hlex]
          obtain rfl : ro = none := by rcases hro with h | h; exact h; simp [noDraw] at h
          obtain ⟨l⟩ := ops
          have hnd : ∀ k : Nat, 1 ≤ k → k ≤ (if okN l.toArray = true then if okL l.toArray = true then 2 else 1 else 0) → okN l.toArray = true ∧ (2 ≤ k → okL l.toArray = true) := by
            intro k h1 h2
            by_cases hN : okN l.toArray = true
            · rw [if_pos hN] at h2
              by_cases hL : okL l.toArray = true
              · exact ⟨hN, fun _ => hL⟩
              · rw [if_neg hL] at h2; exact ⟨hN, fun h => by omega⟩
            · rw [if_neg hN] at h2; omega
          rcases h with h | ⟨hn1, h⟩ | ⟨hn2, h⟩
          · rw [withReads_fst] at h
            refine wpIn_region_quiet_below (F := Fence.wide) rfl hm hlex ?_
            refine qOps_sound (n := n) (ds := ds) (K' := fun σ' => ∀ w', Later w w' → Q .normal ds σ' w') (W := (l.map (strip l.toArray)).filterMap (·.dst)) (σ0 := σ) ?_ l σ a hr hok mem_dsts (fun _ _ => rfl) h
            rintro a' σ' hr' hf hK w' ⟨p, rfl⟩
            exact ⟨ds, σ', hr', hK _ (below_regrown w p.d p.os), hf⟩
          · refine drawn_sound (n := n) hm hlex (hnd 1 (by omega) hn1).1 hok hr h ?_
            intro a' σ' w' hr' hf hK
            exact ⟨ds, σ', hr', hK, hf⟩
          · refine drawn_soundL (n := n) hm hlex (hnd 2 (by omega) (by rw [hn2]; omega)).1 ((hnd 2 (by omega) (by rw [hn2]; omega)).2 (by omega)) hok hr h ?_
            intro a' σ' w' hr' hf hK
            exact ⟨ds, σ', hr', hK, hf⟩
        · exact h.elim
      · rename_i hd
        obtain rfl : d = false := by simpa using hd
        rw [if_neg (by simp)]
        exact wpIn_region_list (vcOps_sound _ _ _ _ hr hok mem_dsts (fun _ _ => rfl) h)
    · exact h.elim
  | seq x y ihx ihy =>
    intro ro Q ds σ w a hro hr h
    have h1 : ro = none ∨ noDraw (abs n x) = true := hro.imp id fun h => by simp only [abs, noDraw, Bool.and_eq_true] at h; exact h.1
    have h2 : ro = none ∨ noDraw (abs n y) = true := hro.imp id fun h => by simp only [abs, noDraw, Bool.and_eq_true] at h; exact h.2
    refine wpIn_seq (wpIn_mono (ihx ro _ ds σ w a h1 hr h) ?_)
    rintro e a' w' ⟨ds', σ', hr', hq, hf⟩
    have hfr : ∀ i, i ∉ writes (abs n (.seq x y)) → σ' i = σ i := fun i hi => hf i fun hh => hi (by simp only [abs, writes, List.mem_append]; exact .inl hh)
    cases e with
    | normal =>
      refine wpIn_mono (ihy ro Q ds' σ' w' a' h2 hr' hq) ?_
      rintro e a2 w2 ⟨ds2, σ2, hr2, hq2, hf2⟩
      exact ⟨ds2, σ2, hr2, hq2, fun i hi => (hf2 i fun hh => hi (by simp only [abs, writes, List.mem_append]; exact .inr hh)).trans (hfr i hi)⟩
    | _ => exact ⟨ds', σ', hr', hq, hfr⟩
  | cond c x y ihx ihy =>
    intro ro Q ds σ w a hro hr h
    have h1 : ro = none ∨ noDraw (abs n x) = true := hro.imp id fun h => by simp only [abs, noDraw, Bool.and_eq_true] at h; exact h.1
    have h2 : ro = none ∨ noDraw (abs n y) = true := hro.imp id fun h => by simp only [abs, noDraw, Bool.and_eq_true] at h; exact h.2
    simp only [abs, vc, vCond] at h
    split at h
    · rename_i b hb
      have hc : a.eval c = .bool b := by rw [hr.eval]; exact hb
      refine wpIn_cond hc ?_
      cases b with
      | true =>
        refine wpIn_mono (ihx ro Q ds σ w a h1 hr h) ?_
        rintro e a2 w2 ⟨ds2, σ2, hr2, hq2, hf2⟩
        exact ⟨ds2, σ2, hr2, hq2, fun i hi => hf2 i fun hh => hi (by simp only [abs, writes, List.mem_append]; exact .inl hh)⟩
      | false =>
        refine wpIn_mono (ihy ro Q ds σ w a h2 hr h) ?_
        rintro e a2 w2 ⟨ds2, σ2, hr2, hq2, hf2⟩
        exact ⟨ds2, σ2, hr2, hq2, fun i hi => hf2 i fun hh => hi (by simp only [abs, writes, List.mem_append]; exact .inr hh)⟩
    · exact h.elim
  | block id c ih =>
    intro ro Q ds σ w a hro hr h
    refine wpIn_block (wpIn_mono (ih ro _ ds σ w a hro hr h) ?_)
    rintro e a' w' ⟨ds', σ', hr', hq, hf⟩
    cases e with
    | exit j =>
      simp only [inBlk] at hq
      simp only [Exit.inBlock]
      split
      · rename_i e; rw [if_pos e] at hq; exact ⟨ds', σ', hr', hq, hf⟩
      · rename_i e; rw [if_neg e] at hq; exact ⟨ds', σ', hr', hq, hf⟩
    | _ => exact ⟨ds', σ', hr', hq, hf⟩
  | loop c ih =>
    intro ro Q ds σ w a hro hr h
    obtain ⟨I, ⟨k0, h0⟩, hround⟩ := h
    refine wpIn_loop_ghost (fun k a w => ∃ ds' σ', Rep n a ds' σ' ∧ (∀ i, i ∉ writes (abs n c) → σ' i = σ i) ∧ I k ds' σ' w) k0 ⟨ds, σ, hr, fun _ _ => rfl, h0⟩ ?_
    rintro k a w ⟨ds', σ', hr', hfr, hI⟩
    refine wpIn_mono (ih ro _ ds' σ' w a hro hr' (hround k ds' σ' w hfr hI)) ?_
    rintro e a2 w2 ⟨ds2, σ2, hr2, hq, hf2⟩
    have hfr2 : ∀ i, i ∉ writes (abs n c) → σ2 i = σ i := fun i hi => (hf2 i hi).trans (hfr i hi)
    cases e with
    | normal =>
      obtain ⟨k', hk', hI'⟩ := hq
      exact ⟨k', hk', ds2, σ2, hr2, hfr2, hI'⟩
    | _ => exact ⟨ds2, σ2, hr2, hq, hfr2⟩
  | exit id => intro ro Q ds σ w a _ hr h; exact wpIn_exit ⟨ds, σ, hr, h, fun _ _ => rfl⟩
  | ret => intro ro Q ds σ w a _ hr h; exact wpIn_ret ⟨ds, σ, hr, h, fun _ _ => rfl⟩
  | rangeFunc => intro ro Q ds σ w a _ hr h; exact h.elim
  | scope => intro ro Q ds σ w a _ hr h; exact h.elim
  | label => intro ro Q ds σ w a _ hr h; exact h.elim
  | goto => intro ro Q ds σ w a _ hr h; exact h.elim
  | refuse => intro ro Q ds σ w a _ hr h; exact h.elim

/-! ### a function -/
def initEnv : List Value → Nat → Env
  | [], _ => fun _ => undef
  | v :: vs, i => upd (initEnv vs (i + 1)) i v
theorem initEnv_at (vs : List Value) : ∀ k i, initEnv vs k i = if k ≤ i then vs.getD (i - k) undef else undef := by
  induction vs with
  | nil => intro k i; simp [initEnv]
  | cons v vs ih =>
    intro k i
    simp only [initEnv, upd, ih]
    by_cases e : i = k
    · subst e; simp
    · rw [if_neg e]
      by_cases h : k ≤ i
      · rw [if_pos h, if_pos (by omega)]
        obtain ⟨m, hm⟩ : ∃ m, i - k = m + 1 := ⟨i - k - 1, by omega⟩
        rw [hm, show i - (k + 1) = m from by omega]; rfl
      · rw [if_neg h, if_neg (by omega)]
theorem rep_init (args : Array Value) (n : Nat) (h : args.size ≤ n) : Rep n { tmps := args ++ Array.replicate (n - args.size) undef, defers := [] } [] (initEnv args.toList 0) := by
  refine ⟨by simp; omega, rfl, fun i => ?_⟩
  rw [initEnv_at, if_pos (Nat.zero_le _), Nat.sub_zero]
  simp only [Array.getD_eq_getD_getElem?, Array.getElem?_append, List.getD_eq_getElem?_getD, Array.getElem?_toList]
  split
  · rfl
  · rw [Array.getElem?_replicate]
    rw [Array.getElem?_eq_none (by omega)]
    split <;> rfl
/-- What is left to show where the function's body ends: its results. -/
def retK (P : Program) (rs : Array ResultVar) (R : Value → World → Prop) : Post
  | .normal, ds, σ, w => ds = [] ∧ resK P rs.toList [] σ R w
  | .ret, ds, σ, w => ds = [] ∧ resK P rs.toList [] σ R w
  | _, _, _, _ => False
def resOne (σ : Env) : ResultVar → Sem Value
  | .tmp t => pure (σ t)
  | .cell a t => do loadVar t (← asAddr (σ a))
theorem resK_run (rs : List ResultVar) : ∀ (acc : List Value) (σ : Env) (R : Value → World → Prop) (w : World), resK P rs acc σ R w →
    ∃ vs : List Value, (rs.mapM (resOne σ)).run P w = .ok vs w ∧ R (tupK (acc ++ vs)) w := by
  induction rs with
  | nil => intro acc σ R w h; exact ⟨[], rfl, by simpa [resK] using h⟩
  | cons r rs ih =>
    intro acc σ R w h
    cases r with
    | tmp t =>
      obtain ⟨vs, hvs, hR⟩ := ih _ _ _ _ h
      refine ⟨σ t :: vs, ?_, by simpa using hR⟩
      simp only [List.mapM_cons, Sem.run_bind, resOne, Sem.run_pure, Result.andThen_ok]
      rw [hvs]; rfl
    | cell a t =>
      simp only [resK] at h
      split at h
      · rename_i ad ha
        obtain ⟨v, hv, h⟩ := h
        obtain ⟨vs, hvs, hR⟩ := ih _ _ _ _ h
        refine ⟨v :: vs, ?_, by simpa using hR⟩
        simp only [List.mapM_cons, Sem.run_bind, resOne, Sem.run_pure, Result.andThen_ok, ha, asAddr, hv]
        rw [hvs]; rfl
      · exact h.elim
theorem retK_post {n : Nat} {fn : Func} {R : Value → World → Prop} (e : Exit) (a : Act) (w : World) (h : lift n (retK P fn.results R) e a w) : bodyPost P fn (fun e w' => ∃ v, e = .returned v ∧ R v w') e a w := by
  obtain ⟨ds, σ, hr, hq⟩ := h
  have key : ds = [] ∧ resK P fn.results.toList [] σ R w → bodyPost P fn (fun e w' => ∃ v, e = .returned v ∧ R v w') .ret a w := by
    rintro ⟨hds, hq2⟩
    subst hds
    obtain ⟨vs, hvs, hR⟩ := resK_run _ _ _ _ _ hq2
    refine ⟨hr.defers, tupK vs, ?_, tupK vs, rfl, by simpa using hR⟩
    have e1 : (fun t => a.tmps.getD t undef) = σ := funext hr.at_
    have e0 : (fun x : ResultVar => (match x with
      | .tmp t => pure (a.tmps.getD t undef)
      | .cell x t => do loadVar t (← asAddr (a.tmps.getD x undef)) : Sem Value)) = resOne σ := by
      funext r; rw [← e1]; cases r <;> rfl
    have e2 : (results fn a.tmps) = (do let vs ← fn.results.mapM (resOne σ); pure (if h : vs.size = 1 then vs[0] else .tuple vs)) := by
      unfold results; rw [← e0]; rfl
    rw [e2, Array.mapM_eq_mapM_toList]
    simp only [Sem.run_bind, Sem.run_map, hvs, Result.andThen_ok, Sem.run_pure]
    congr 1
    cases vs with
    | nil => rfl
    | cons v vs => cases vs <;> rfl
  cases e with
  | normal => exact key hq
  | ret => exact key hq
  | _ => exact hq.elim
theorem ret_of_vc {f : FuncId} {fn : Func} {c : Code} {args : Array Value} {w : World} {R : Value → World → Prop} (hm : P.follows .mixedOrders = true)
    (hf : P.funcs[f]? = some fn) (hb : fn.body = some c) (hn : args.size ≤ fn.ntmps) (B : VC) (hB : abs fn.ntmps c = B)
    (h : vc P B (retK P fn.results R) [] (initEnv args.toList 0) w) : Ret P f args w R := by
  subst hB
  refine callsIn_wide.1 (callsIn_of_wp (n := 0) (F := Fence.wide) hf hb trivial ?_)
  refine wpIn_mono (vc_sound hm c none _ _ _ _ _ (.inl rfl) (rep_init args fn.ntmps hn) h) ?_
  rintro e a w ⟨ds, σ, hr, hq, _⟩
  exact retK_post e a w ⟨ds, σ, hr, hq⟩
end Go.Vc
