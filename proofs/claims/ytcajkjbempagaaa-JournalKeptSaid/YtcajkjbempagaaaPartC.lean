/- The soundness of the generator of verification conditions: code, functions. -/
import Derived.Test.YtcajkjbempagaaaPartB
set_option linter.all false
section
namespace Go.Vc
open Go.RowKit Go.Sort
variable {P : Program}
/-! ### code -/
theorem mem_dsts {ops : Array Oper} {l : List Oper} : ∀ o ∈ l, ∀ x, o.dst = some x → x ∈ (l.map (strip ops)).filterMap (·.dst) := by
  intro o ho x hx
  exact List.mem_filterMap.2 ⟨strip ops o, List.mem_map_of_mem ho, by simp [strip, hx]⟩
theorem rep_params {n : Nat} {a : Act} {ds : List Deferred} : ∀ {σ : Env} (hr : Rep n a ds σ) (ps : List Nat) (vs : List Value), ps.all (fun d => decide (d < n)) = true →
    Rep n { tmps := (ps.zip vs).foldl (fun t (p, v) => t.setIfInBounds p v) a.tmps, defers := [] } [] (putAll σ ps vs) := by
  intro σ hr ps vs hps
  have h0 : Rep n { tmps := a.tmps, defers := [] } [] σ := ⟨hr.size, rfl, hr.at_⟩
  revert h0
  generalize a.tmps = ts
  clear hr
  induction ps generalizing vs σ ts with
  | nil => intro h0; exact h0
  | cons p ps ih =>
    intro h0
    cases vs with
    | nil => exact h0
    | cons v vs =>
      simp only [List.all_cons, Bool.and_eq_true] at hps
      have h1 := h0.put (dst := some p) (by simpa using hps.1) v
      exact ih vs hps.2 _ h1
theorem vc_sound {r tt : Bool} {n : Nat} (hm : P.follows .mixedOrders = true) (c : Code) : ∀ (ro : Option Nat) (Q : Post) (ds : List Deferred) (σ : Env) (w : World) (a : Act), (ro = none ∨ r = true) → Rep n a ds σ →
    vc P (absM r n tt c) Q ds σ w → c.wpIn (Fw ro) 0 P (lift n (Fr (writes (absM r n tt c)) σ Q)) a w := by
  induction c generalizing r with
  | skip => intro ro Q ds σ w a _ hr h; exact wpIn_skip ⟨ds, σ, hr, h, fun _ _ => rfl⟩
  | region id ops d =>
    intro ro Q ds σ w a hro hr h
    simp only [absM] at h ⊢
    split at h
    · rename_i hok
      rw [if_pos hok]
      split at h
      · rename_i hd
        split at h
        · rename_i hlex
          subst hd
          rw [if_pos rfl, if_pos hlex]
          obtain ⟨l⟩ := ops
          have hnd : 1 ≤ (if okN l.toArray = true then 1 + lastN l.toArray else 0) → okN l.toArray = true := by
            intro h
            by_cases hN : okN l.toArray = true
            · exact hN
            · rw [if_neg hN] at h; omega
          have hR : drawnR P (withReads (l.map (strip l.toArray))) (if okN l.toArray = true then 1 + lastN l.toArray else 0) (Q .normal ds) σ w → (Code.region id l.toArray true).wpIn (Fw ro) 0 P (lift n (Fr ((l.map (strip l.toArray)).filterMap (·.dst)) σ Q)) a w := by
            rintro (⟨hn1, h⟩ | ⟨k, hk, hk2, h⟩)
            · refine drawn_sound (ro := ro) (n := n) hm hlex (hnd hn1) hok hr h ?_
              intro a' σ' w' hr' hf hK
              exact ⟨ds, σ', hr', hK, hf⟩
            · have hls : (withReads (l.map (strip l.toArray))).length = l.length := by unfold withReads; simp
              simp only [hls] at hk hk2
              have hN : okN l.toArray = true := by
                by_cases hN : okN l.toArray = true
                · exact hN
                · rw [if_neg hN] at hk2; omega
              rw [if_pos hN] at hk2
              refine drawn_soundK (ro := ro) (n := n) hm hlex hN (lastN_at (by simpa using hk) (by simpa using hk2)) hok hr h ?_
              intro a' σ' w' hr' hf hK
              exact ⟨ds, σ', hr', hK, hf⟩
          cases r with
          | true =>
            rw [if_pos rfl] at h ⊢
            exact hR h
          | false =>
            rw [if_neg (by simp)] at h ⊢
            obtain rfl : ro = none := by rcases hro with h | h; exact h; simp at h
            have hD : ∀ nd, (nd = if okN l.toArray = true then 1 + lastN l.toArray else 0) → drawn P (withReads (l.map (strip l.toArray))) nd (Q .normal ds) σ w → (Code.region id l.toArray true).wpIn (Fw none) 0 P (lift n (Fr ((l.map (strip l.toArray)).filterMap (·.dst)) σ Q)) a w := by
              rintro nd rfl (h | h)
              · rw [withReads_fst] at h
                refine wpIn_region_quiet_below (F := Fence.wide) rfl hm hlex ?_
                refine qOps_sound (n := n) (ds := ds) (K' := fun σ' => ∀ w', Later w w' → Q .normal ds σ' w') (W := (l.map (strip l.toArray)).filterMap (·.dst)) (σ0 := σ) ?_ l σ a hr hok mem_dsts (fun _ _ => rfl) h
                rintro a' σ' hr' hf hK w' ⟨p, rfl⟩
                exact ⟨ds, σ', hr', hK _ (below_regrown w p.d p.os), hf⟩
              · exact hR h
            by_cases hT : (okN l.toArray && tt && okT l.toArray (mOf l.toArray) (l.toArray.size - lastN l.toArray)) = true
            · rw [if_pos hT] at h ⊢
              simp only [Bool.and_eq_true] at hT
              rcases h with h | h
              · exact hD _ (by rw [if_pos hT.1.1]) h
              · refine drawn_soundT (ro := none) (n := n) hm hlex hT.1.1 hT.2 hok hr h ?_
                intro a' σ' w' hr' hf hK
                exact ⟨ds, σ', hr', hK, hf⟩
            rw [if_neg hT] at h ⊢
            by_cases hs : (okN l.toArray && okS l.toArray (l.toArray.size - (1 + lastN l.toArray))) = true
            · rw [if_pos hs] at h ⊢
              simp only [Bool.and_eq_true] at hs
              rcases h with h | h
              · exact hD _ (by rw [if_pos hs.1]) h
              · have hls : (withReads (l.map (strip l.toArray))).length = l.length := by unfold withReads; simp
                rw [hls] at h
                have hs2 : okS l.toArray (l.length - (1 + lastN l.toArray)) = true := by simpa using hs.2
                refine drawn_soundS (ro := none) (n := n) hm hlex hs.1 hs2 hok hr h ?_
                intro a' σ' w' hr' hf hK
                exact ⟨ds, σ', hr', hK, hf⟩
            · rw [if_neg hs] at h ⊢
              by_cases hA : (okN l.toArray && tt) = true
              · rw [if_pos hA] at h ⊢
                simp only [Bool.and_eq_true] at hA
                rcases h with h | h
                · exact hD _ (by rw [if_pos hA.1]) h
                · refine drawn_soundA (ro := none) (n := n) hm hA.1 hok hr h ?_
                  intro a' σ' w' hr' hf hK
                  exact ⟨ds, σ', hr', hK, hf⟩
              rw [if_neg hA] at h ⊢
              exact hD _ rfl h
        · exact h.elim
      · rename_i hd
        obtain rfl : d = false := by simpa using hd
        rw [if_neg (by simp)]
        exact wpIn_region_list (vcOps_sound _ _ _ _ hr hok mem_dsts (fun _ _ => rfl) h)
    · exact h.elim
  | seq x y ihx ihy =>
    intro ro Q ds σ w a hro hr h
    have h1 := hro
    have h2 := hro
    refine wpIn_seq (wpIn_mono (ihx ro _ ds σ w a h1 hr h) ?_)
    rintro e a' w' ⟨ds', σ', hr', hq, hf⟩
    have hfr : ∀ i, i ∉ writes (absM r n tt (.seq x y)) → σ' i = σ i := fun i hi => hf i fun hh => hi (by simp only [absM, writes, List.mem_append]; exact .inl hh)
    cases e with
    | normal =>
      refine wpIn_mono (ihy ro Q ds' σ' w' a' h2 hr' hq) ?_
      rintro e a2 w2 ⟨ds2, σ2, hr2, hq2, hf2⟩
      exact ⟨ds2, σ2, hr2, hq2, fun i hi => (hf2 i fun hh => hi (by simp only [absM, writes, List.mem_append]; exact .inr hh)).trans (hfr i hi)⟩
    | _ => exact ⟨ds', σ', hr', hq, hfr⟩
  | cond c x y ihx ihy =>
    intro ro Q ds σ w a hro hr h
    have h1 := hro
    have h2 := hro
    simp only [absM, vc, vCond] at h
    split at h
    · rename_i b hb
      have hc : a.eval c = .bool b := by rw [hr.eval]; exact hb
      refine wpIn_cond hc ?_
      cases b with
      | true =>
        refine wpIn_mono (ihx ro Q ds σ w a h1 hr h) ?_
        rintro e a2 w2 ⟨ds2, σ2, hr2, hq2, hf2⟩
        exact ⟨ds2, σ2, hr2, hq2, fun i hi => hf2 i fun hh => hi (by simp only [absM, writes, List.mem_append]; exact .inl hh)⟩
      | false =>
        refine wpIn_mono (ihy ro Q ds σ w a h2 hr h) ?_
        rintro e a2 w2 ⟨ds2, σ2, hr2, hq2, hf2⟩
        exact ⟨ds2, σ2, hr2, hq2, fun i hi => hf2 i fun hh => hi (by simp only [absM, writes, List.mem_append]; exact .inr hh)⟩
    · exact h.elim
  | block id c ih =>
    intro ro Q ds σ w a hro hr h
    refine wpIn_block (wpIn_mono (ih ro _ ds σ w a hro hr h) ?_)
    rintro e a' w' ⟨ds', σ', hr', hq, hf⟩
    cases e with
    | exit j =>
      simp only [inBlk] at hq
      simp only [Exit.inBlock]
      split
      · rename_i e; rw [if_pos e] at hq; exact ⟨ds', σ', hr', hq, hf⟩
      · rename_i e; rw [if_neg e] at hq; exact ⟨ds', σ', hr', hq, hf⟩
    | _ => exact ⟨ds', σ', hr', hq, hf⟩
  | loop c ih =>
    intro ro Q ds σ w a hro hr h
    obtain ⟨I, ⟨k0, h0⟩, hround⟩ := h
    refine wpIn_loop_ghost (fun k a w => ∃ ds' σ', Rep n a ds' σ' ∧ (∀ i, i ∉ writes (absM r n tt c) → σ' i = σ i) ∧ I k ds' σ' w) k0 ⟨ds, σ, hr, fun _ _ => rfl, h0⟩ ?_
    rintro k a w ⟨ds', σ', hr', hfr, hI⟩
    refine wpIn_mono (ih ro _ ds' σ' w a hro hr' (hround k ds' σ' w hfr hI)) ?_
    rintro e a2 w2 ⟨ds2, σ2, hr2, hq, hf2⟩
    have hfr2 : ∀ i, i ∉ writes (absM r n tt c) → σ2 i = σ i := fun i hi => (hf2 i hi).trans (hfr i hi)
    cases e with
    | normal =>
      obtain ⟨k', hk', hI'⟩ := hq
      exact ⟨k', hk', ds2, σ2, hr2, hfr2, hI'⟩
    | _ => exact ⟨ds2, σ2, hr2, hq, hfr2⟩
  | exit id => intro ro Q ds σ w a _ hr h; exact wpIn_exit ⟨ds, σ, hr, h, fun _ _ => rfl⟩
  | ret => intro ro Q ds σ w a _ hr h; exact wpIn_ret ⟨ds, σ, hr, h, fun _ _ => rfl⟩
  | rangeFunc g ps asg body iha ihb =>
    intro ro Q ds σ w a hro hr h
    simp only [absM] at h ⊢
    split at h
    · rename_i hok
      rw [if_pos hok]
      simp only [Bool.and_eq_true, Bool.not_eq_true'] at hok
      obtain ⟨hps, hrf⟩ := hok
      obtain rfl : ro = none := by rcases hro with h | h; exact h; rw [hrf] at h; cases h
      obtain ⟨gf, lb, hg, hbd, h⟩ := h
      refine wpIn_rangeFunc (F := Fence.wide) ?_
      intro fn _
      have hev : a.eval g = .func (.func gf) #[] lb := by rw [hr.eval]; exact hg
      let r0 : LoopState → Option Code → Loop := fun st pe => { state := st, pending := pe, fn, tmps := a.tmps, params := ps, assign := asg, body, defers := w.heap.size }
      let rec_ : Rec := fun s e => .loop (r0 s (match e with
        | .ret => some .ret
        | .exit id => some (.exit id)
        | _ => none))
      refine ⟨w.heap.size + 1, [mark w.heap.size], (w.alloc (.deferred (some []))).alloc (rec_ .ready .normal), { target := .fn (.func gf) lb, args := #[.func (.yield (w.heap.size + 1)) #[] #[]] }, (w.alloc (.deferred (some []))).alloc (rec_ .ready .normal), gf,
        #[.func (.yield (w.heap.size + 1)) #[] #[]] ++ lb, (w.alloc (.deferred (some []))).alloc (rec_ .ready .normal), ?_, ?_, ?_, ?_, (fun h => by cases h), ?_⟩
      · exact run_enterLoop_outer _ _ _ _ _
      · simp only [resolve, hev]
        simp [go_sem]
      · intro f' _; trivial
      · simp only [invoke]; rw [hbd]
      · have h := h w.heap.size (w.heap.size + 1) rec_ (fun _ _ => rfl) rfl rfl ?_
        · unfold FnC at h
          rw [hbd] at h
          refine CallsIn.mono ((callsIn_Fw none 0).2 h) ?_
          rintro e w3 ⟨v, rfl, hq⟩
          have hds : ({ a with defers := [mark w.heap.size] ++ a.defers } : Act) = { a with defers := mark w.heap.size :: a.defers } := rfl
          have hrep : Rep n { a with defers := mark w.heap.size :: a.defers } (mark w.heap.size :: ds) σ := ⟨hr.size, by rw [hr.defers], hr.at_⟩
          rcases hq with ⟨hl, hq⟩ | ⟨hl, hq⟩ | ⟨id, hl, hq⟩
          · exact ⟨none, _, run_endLoop hl (by simp [r0]), ⟨_, σ, hrep, hq, fun _ _ => rfl⟩⟩
          · exact ⟨some .ret, _, run_endLoop hl (by simp [r0]), wpIn_ret ⟨_, σ, hrep, hq, fun _ _ => rfl⟩⟩
          · exact ⟨some (.exit id), _, run_endLoop hl (by simp [r0]), wpIn_exit ⟨_, σ, hrep, hq, fun _ _ => rfl⟩⟩
        · rintro args w2 K ⟨hl, hsz, hasg⟩
          have hsz' : args.size = (r0 .ready none).params.size := by simpa [r0] using hsz
          unfold YldC
          rw [run_yield (r := r0 .ready none) hl hsz']
          refine roundIn_of_wpIn trivial ?_
          have hr2 := rep_params hr ps.toList args.toList hps
          have e0 : (ps.zip args).foldl (fun t (p, v) => t.setIfInBounds p v) a.tmps = (ps.toList.zip args.toList).foldl (fun t (p, v) => t.setIfInBounds p v) a.tmps := by
            rw [← Array.foldl_toList, Array.toList_zip]
          show asg.wpIn (Fw (some (w.heap.size + 1))) 0 P _ { tmps := (ps.zip args).foldl (fun t (p, v) => t.setIfInBounds p v) a.tmps, defers := [] } w2
          rw [e0]
          refine wpIn_mono (iha (some (w.heap.size + 1)) _ [] _ w2 _ (.inr rfl) hr2 hasg) ?_
          rintro e a3 w3 ⟨ds3, σ3, hr3, hq3, _⟩
          cases e with
          | normal =>
            obtain ⟨hl3, hb3⟩ := hq3
            refine ⟨_, run_beginRound (r := r0 .ready none) hl3 rfl, ?_⟩
            refine wpIn_mono (ihb (some (w.heap.size + 1)) _ ds3 σ3 _ a3 (.inr rfl) hr3 hb3) ?_
            rintro e a4 w4 ⟨ds4, σ4, hr4, hq4, _⟩
            cases e with
            | normal => obtain ⟨hl4, hk4⟩ := hq4; exact ⟨_, _, run_endRound (r := r0 .busy none) none hl4, _, rfl, hk4⟩
            | ret => obtain ⟨hl4, hk4⟩ := hq4; exact ⟨_, _, run_endRound (r := r0 .busy none) (some .ret) hl4, _, rfl, hk4⟩
            | exit id => obtain ⟨hl4, hk4⟩ := hq4; exact ⟨_, _, run_endRound (r := r0 .busy none) (some (.exit id)) hl4, _, rfl, hk4⟩
            | _ => exact hq4.elim
          | _ => exact hq3.elim
    · exact h.elim
  | scope => intro ro Q ds σ w a _ hr h; exact h.elim
  | label => intro ro Q ds σ w a _ hr h; exact h.elim
  | goto => intro ro Q ds σ w a _ hr h; exact h.elim
  | refuse => intro ro Q ds σ w a _ hr h; exact h.elim
/-! ### a function -/
def initEnv : List Value → Nat → Env
  | [], _ => fun _ => undef
  | v :: vs, i => upd (initEnv vs (i + 1)) i v
theorem initEnv_at (vs : List Value) : ∀ k i, initEnv vs k i = if k ≤ i then vs.getD (i - k) undef else undef := by
  induction vs with
  | nil => intro k i; simp [initEnv]
  | cons v vs ih =>
    intro k i
    simp only [initEnv, upd, ih]
    by_cases e : i = k
    · subst e; simp
    · rw [if_neg e]
      by_cases h : k ≤ i
      · rw [if_pos h, if_pos (by omega)]
        obtain ⟨m, hm⟩ : ∃ m, i - k = m + 1 := ⟨i - k - 1, by omega⟩
        rw [hm, show i - (k + 1) = m from by omega]; rfl
      · rw [if_neg h, if_neg (by omega)]
theorem rep_init (args : Array Value) (n : Nat) (h : args.size ≤ n) : Rep n { tmps := args ++ Array.replicate (n - args.size) undef, defers := [] } [] (initEnv args.toList 0) := by
  refine ⟨by simp; omega, rfl, fun i => ?_⟩
  rw [initEnv_at, if_pos (Nat.zero_le _), Nat.sub_zero]
  simp only [Array.getD_eq_getD_getElem?, Array.getElem?_append, List.getD_eq_getElem?_getD, Array.getElem?_toList]
  split
  · rfl
  · rw [Array.getElem?_replicate]
    rw [Array.getElem?_eq_none (by omega)]
    split <;> rfl
def retM (P : Program) (rs : List ResultVar) (R : Value → World → Prop) : List Deferred → Env → World → Prop
  | [], σ, w => resK P rs [] σ R w
  | d :: ds, σ, w => ∃ D, d = mark D ∧ w.heap[D]? = some (.deferred (some [])) ∧ retM P rs R ds σ (w.putObj D (.deferred none))
def retK (P : Program) (rs : Array ResultVar) (R : Value → World → Prop) : Post
  | .normal, ds, σ, w => retM P rs.toList R ds σ w
  | .ret, ds, σ, w => retM P rs.toList R ds σ w
  | _, _, _, _ => False
def resOne (σ : Env) : ResultVar → Sem Value
  | .tmp t => pure (σ t)
  | .cell a t => do loadVar t (← asAddr (σ a))
theorem resK_run (rs : List ResultVar) : ∀ (acc : List Value) (σ : Env) (R : Value → World → Prop) (w : World), resK P rs acc σ R w →
    ∃ vs : List Value, (rs.mapM (resOne σ)).run P w = .ok vs w ∧ R (tupK (acc ++ vs)) w := by
  induction rs with
  | nil => intro acc σ R w h; exact ⟨[], rfl, by simpa [resK] using h⟩
  | cons r rs ih =>
    intro acc σ R w h
    cases r with
    | tmp t =>
      obtain ⟨vs, hvs, hR⟩ := ih _ _ _ _ h
      refine ⟨σ t :: vs, ?_, by simpa using hR⟩
      simp only [List.mapM_cons, Sem.run_bind, resOne, Sem.run_pure, Result.andThen_ok]
      rw [hvs]; rfl
    | cell a t =>
      simp only [resK] at h
      split at h
      · rename_i ad ha
        obtain ⟨v, hv, h⟩ := h
        obtain ⟨vs, hvs, hR⟩ := ih _ _ _ _ h
        refine ⟨v :: vs, ?_, by simpa using hR⟩
        simp only [List.mapM_cons, Sem.run_bind, resOne, Sem.run_pure, Result.andThen_ok, ha, asAddr, hv]
        rw [hvs]; rfl
      · exact h.elim
theorem ret_run {n : Nat} {fn : Func} {R : Value → World → Prop} {a : Act} {ds : List Deferred} {σ : Env} {w : World} (hr : Rep n a ds σ) (hq2 : resK P fn.results.toList [] σ R w) :
    ∃ v, (results fn a.tmps).run P w = .ok v w ∧ R v w := by
  obtain ⟨vs, hvs, hR⟩ := resK_run _ _ _ _ _ hq2
  refine ⟨tupK vs, ?_, by simpa using hR⟩
  have e1 : (fun t => a.tmps.getD t undef) = σ := funext hr.at_
  have e0 : (fun x : ResultVar => (match x with
    | .tmp t => pure (a.tmps.getD t undef)
    | .cell x t => do loadVar t (← asAddr (a.tmps.getD x undef)) : Sem Value)) = resOne σ := by
    funext r; rw [← e1]; cases r <;> rfl
  have e2 : (results fn a.tmps) = (do let vs ← fn.results.mapM (resOne σ); pure (if h : vs.size = 1 then vs[0] else .tuple vs)) := by
    unfold results; rw [← e0]; rfl
  rw [e2, Array.mapM_eq_mapM_toList]
  simp only [Sem.run_bind, Sem.run_map, hvs, Result.andThen_ok, Sem.run_pure]
  congr 1
  cases vs with
  | nil => rfl
  | cons v vs => cases vs <;> rfl
theorem retM_leaves {n : Nat} {fn : Func} {R : Value → World → Prop} : ∀ (ds : List Deferred) {a : Act} {ds' : List Deferred} {σ : Env} {w : World}, Rep n a ds' σ → retM P fn.results.toList R ds σ w →
    LeavesInM Fence.wide 0 P fn a.tmps (fun e w' => ∃ v, e = .returned v ∧ R v w') ds .returning w
  | [], a, ds', σ, w, hr, h => by
    obtain ⟨v, h1, h2⟩ := ret_run (fn := fn) hr h
    exact ⟨v, h1, v, rfl, h2⟩
  | d :: ds, a, ds', σ, w, hr, h => by
    obtain ⟨D, rfl, hD, h⟩ := h
    exact ⟨by simp, .inl ⟨D, _, rfl, run_takeDeferred hD, retM_leaves ds hr h⟩⟩
theorem retK_post {n : Nat} {fn : Func} {R : Value → World → Prop} (e : Exit) (a : Act) (w : World) (h : lift n (retK P fn.results R) e a w) : bodyPostM Fence.wide 0 P fn (fun e w' => ∃ v, e = .returned v ∧ R v w') e a w := by
  obtain ⟨ds, σ, hr, hq⟩ := h
  cases e with
  | normal => rw [← hr.defers] at hq; exact retM_leaves _ hr hq
  | ret => rw [← hr.defers] at hq; exact retM_leaves _ hr hq
  | _ => exact hq.elim
theorem ret_of_vc {f : FuncId} {fn : Func} {c : Code} {args : Array Value} {w : World} {R : Value → World → Prop} (hm : P.follows .mixedOrders = true)
    (hf : P.funcs[f]? = some fn) (hb : fn.body = some c) (hn : args.size ≤ fn.ntmps) (B : VC) {tt : Bool} (hB : absM false fn.ntmps tt c = B)
    (h : vc P B (retK P fn.results R) [] (initEnv args.toList 0) w) : Ret P f args w R := by
  subst hB
  refine callsIn_wide.1 (callsIn_of_wp_marks (n := 0) (F := Fence.wide) hf hb trivial ?_)
  refine wpIn_mono (vc_sound (r := false) hm c none _ _ _ _ _ (.inl rfl) (rep_init args fn.ntmps hn) h) ?_
  rintro e a w ⟨ds, σ, hr, hq, _⟩
  exact retK_post e a w ⟨ds, σ, hr, hq⟩
end Go.Vc
end
