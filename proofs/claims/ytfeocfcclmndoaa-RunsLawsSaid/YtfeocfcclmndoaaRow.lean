/- From a contract of a law's function to the statement that is given for it: the law returns true and leaves what was there. -/
import Derived.Test.YtfeocfcclmndoaaMem5
import Derived.Carry
import Derived.OpenShut
import Derived.ProofKit
namespace Go.Vc
open Go.RowKit Go.ChangeShapes
section
variable {H : Type} {enc : TypeId × Value → H} {P : Program}
theorem trodAll_stays (hl : laidOutB P = true) {W W' : World} {sp' : Nat → Bool} : ∀ {ts : List TypeId} {vs : List Value} {ds : List (DataW H)} {ps : List MemPlace},
    (∀ t ∈ ts, P.readableRec t = true ∧ t < P.types.size) → DataW.TrodAll enc P W 0 (fun _ => true) true ts vs ds ps → (∀ p ∈ ps, W.sameAt W' p) → (∀ p ∈ ps, sp' p.block = true) → DataW.TrodAll enc P W' 0 sp' true ts vs ds ps
  | [], [], [], _, _, h, _, _ => h
  | t :: ts, v :: vs, d :: ds, ps, ht, ⟨p, q, h1, h2, e⟩, hs, hp => by
    subst e
    refine ⟨p, q, WideElems.Trod_stays hl (ht t (by simp)).1 (ht t (by simp)).2 h1 (fun x hx => hs x (by simp [hx])) (fun x hx => hp x (by simp [hx])), ?_, rfl⟩
    exact trodAll_stays hl (fun u hu => ht u (by simp [hu])) h2 (fun x hx => hs x (by simp [hx])) (fun x hx => hp x (by simp [hx]))
theorem later_kept {W W' : World} (h : Later W W') (may : MemPlace → Prop) : W.keptBut W' may := by
  refine ⟨h.os, h.output, fun i hi => ?_⟩
  rw [h.block i hi]
  cases hb : W.heap[i]? with
  | none => simp
  | some o =>
    cases o with
    | cells c t fr => simp
    | map es k => simp
    | chan => simp
    | _ => simp
theorem trodAll_ps_len : ∀ {W : World} {b : Nat} {sp : Nat → Bool} {hd : Bool} {ts : List TypeId} {vs : List Value} {ds : List (DataW H)} {ps : List MemPlace}, DataW.TrodAll enc P W b sp hd ts vs ds ps → vs.length = ts.length ∧ ds.length = ts.length
  | _, _, _, _, [], [], [], _, _ => ⟨rfl, rfl⟩
  | W, b, sp, hd, _ :: ts, _ :: vs, _ :: ds, _, ⟨_, _, _, h2, _⟩ => by
    have := trodAll_ps_len h2
    exact ⟨by simp [this.1], by simp [this.2]⟩
/-- The post of a law that returned true and left what was there. -/
theorem post_later {f : Func} {s : ChangeSpec} {apart fresh handsOn again : Bool} {W W' : World} {args : Array Value} {ds gs : List (DataW H)} {before : List MemPlace} {tb : TypeId}
    (hl : laidOutB P = true) (hts : ∀ t ∈ f.params.toList, P.readableRec t = true ∧ t < P.types.size) (hr : f.resultTypes = #[tb]) (htb : P.underlying tb = some .bool)
    (hv : s.vars = []) (hfn : s.fn H ds = { results := [.lit (.bool true)], args := ds })
    (hW : DataW.Whole enc P f.params.toList s.vars apart W args.toList ds gs before) (h : Later W W') :
    s.post enc P f apart fresh handsOn again W args (.bool true) W' := by
  have hlt := hW.lt
  have hW' := hW
  obtain ⟨p, q, hA, hV, rfl, hfz, hnd⟩ := hW
  rw [hv] at hV
  obtain ⟨rfl, rfl⟩ := trodVars_none hV
  have same : ∀ x ∈ p, W.sameAt W' x := fun x hx => Below.same h (hlt x (by simp [hx]))
  have hargs : ∀ sp : Nat → Bool, (∀ x ∈ p, sp x.block = true) → DataW.TrodAll enc P W' 0 sp true f.params.toList args.toList ds p := fun sp hsp => trodAll_stays hl hts hA same hsp
  have hres : ∀ (b : Nat) (sp : Nat → Bool) (hd : Bool), DataW.TrodAll enc P W' b sp hd f.resultTypes.toList ((Value.bool true).resultList f.resultTypes.size) [.lit (.bool true)] [] := by
    intro b sp hd
    rw [hr]
    exact trodAll_cons_mk (shut_bool htb _) trodAll_mk0
  refine ⟨ds, [], p ++ [], [], p, [], hW', ?_, ?_, ?_, later_kept h _, fun _ => ?_⟩
  · rw [List.append_nil, hfn]; exact hres _ _ _
  · rw [List.append_nil, hfn]; exact hargs _ (fun x hx => by simpa using hlt x (by simp [hx]))
  · rw [hv, List.append_nil, hfn]; rfl
  · refine ⟨?_, [.lit (.bool true)] ++ ds, [], p, ⟨p, [], ?_, ?_, by simp, ?_, ?_⟩, ?_⟩
    · intro j t r h1 h2
      rw [hr] at h1 h2
      exact ok_one (f := f) hr rfl (okWide_bool_mk htb _) j t r (by rw [hr]; exact h1) (by rw [hr]; exact h2)
    · have := trodAll_append (hargs (fun _ => true) (fun _ _ => rfl)) (hres 0 (fun _ => true) true)
      simpa using this
    · rw [hv]; rfl
    · intro b off hp
      have := hlt _ (show MemPlace.cell b off ∈ p ++ [] by simpa using hp)
      rw [h.frozen (by exact this)]
      exact hfz b off (by simpa using hp)
    · intro ha; simpa using hnd ha
    · intro x hx _; simpa using hx
end
/-- The row's step out of a contract. -/
theorem lifted_later {C : Checked} {os : Os} {H : Type} {enc : TypeId × Value → H} {fid : FuncId} {f : Func} {s : ChangeSpec} {conds : List PathCond} {apart fresh handsOn again : Bool} {tb : TypeId}
    (own : ownKnob C.prog.godebug = none) (started : os.Started) (noInit : C.prog.inits.idxOf? fid = none) (hf : C.prog.funcs[fid]? = some f) (hb : HasBody C.prog fid)
    (witness : ∃ (w : World) (tape : Tape) (i : Input), w.os = os ∧ (w.forCall tape i).Shaped C.prog ∧ i.vars = [] ∧ Input.okWide C.prog (w.forCall tape i) .any w.heap.size fid i ∧
      s.pre6 enc C.prog f conds apart (w.forCall tape i).memory i.args ∧ ({} : Assume).holds C.prog (lone (Frame.enter C.prog fid i.args .normal) [] (w.forCall tape i)))
    (hl : laidOutB C.prog = true) (hts : ∀ t ∈ f.params.toList, C.prog.readableRec t = true ∧ t < C.prog.types.size) (hr : f.resultTypes = #[tb]) (htb : C.prog.underlying tb = some .bool)
    (hv : s.vars = []) (hfn : ∀ ds : List (DataW H), ds.length = f.params.toList.length → s.fn H ds = { results := [.lit (.bool true)], args := ds })
    (walk : ∀ (W : World) (base : Nat) (args : Array Value) (ds : List (DataW H)) (p : List MemPlace), (∀ (j : Nat) t v, f.params[j]? = some t → args[j]? = some v → Value.okWide C.prog W .any base t v) →
      DataW.TrodAll enc C.prog W 0 (fun _ => true) true f.params.toList args.toList ds p → FnC C.prog fid args W fun v w' => v = .bool true ∧ Later W w') :
    ReturnsInHanded {} C os fid .any (s.pre6 enc C.prog f conds apart) (s.post enc C.prog f apart fresh handsOn again) := by
  refine returnsInHanded_of_change own started noInit hf witness ?_
  intro W base args ds gs before hval hW _ _
  have hW' := hW
  obtain ⟨p, q, hA, hV, rfl, hfz, hnd⟩ := hW
  have hw := walk W base args ds p hval hA
  unfold FnC at hw
  rw [hb args W] at hw
  have hw : Ret C.prog fid args W fun v w' => v = .bool true ∧ Later W w' := hw
  refine hw.mono fun e w' ⟨v, he, hv', hlat⟩ => ?_
  subst hv'
  exact ⟨_, he, post_later hl hts hr htb hv (hfn ds (trodAll_ps_len hA).2) hW' hlat⟩
section
variable {H : Type} {enc : TypeId × Value → H} {P : Program} {w : World} {sp : Nat → Bool} {hd : Bool}
theorem forall_rows {n : Nat} {R : Nat → List Value → Prop} (h : ∀ i, i < n → ∃ r, R i r) : ∃ rows : List (List Value), rows.length = n ∧ ∀ i r, rows[i]? = some r → R i r := by
  induction n with
  | zero => exact ⟨[], rfl, fun i r hr => by simp at hr⟩
  | succ n ih =>
    obtain ⟨rows, hl, hr⟩ := ih fun i hi => h i (by omega)
    obtain ⟨r, hr'⟩ := h n (by omega)
    refine ⟨rows ++ [r], by simp [hl], fun i x hx => ?_⟩
    by_cases hi : i < n
    · rw [List.getElem?_append_left (by omega)] at hx
      exact hr i x hx
    · rw [List.getElem?_append_right (by omega)] at hx
      have : i = n := by
        by_cases h2 : i - rows.length = 0
        · omega
        · rw [List.getElem?_eq_none (by simp; omega)] at hx; cases hx
      subst this
      simp [hl] at hx
      exact hx ▸ hr'
theorem flatten_at {s : Nat} : ∀ (rows : List (List Value)), (∀ r ∈ rows, r.length = s) → ∀ (i : Nat) (x : Value), rows.flatten[i]? = some x → ∃ k j r, i = k * s + j ∧ j < s ∧ rows[k]? = some r ∧ r[j]? = some x
  | [], _, i, x, h => by simp at h
  | r :: rows, hl, i, x, h => by
    rw [List.flatten_cons] at h
    have hr := hl r (by simp)
    by_cases hi : i < r.length
    · rw [List.getElem?_append_left hi] at h
      exact ⟨0, i, r, by simp, by omega, rfl, h⟩
    · rw [List.getElem?_append_right (by omega)] at h
      obtain ⟨k, j, r', e, hj, hk, hx⟩ := flatten_at rows (fun r' h' => hl r' (by simp [h'])) (i - r.length) x h
      exact ⟨k + 1, j, r', by rw [Nat.add_mul]; omega, hj, by simpa using hk, hx⟩
/-- A slice that came in: its elements' cells, row by row, each as its type reads. -/
theorem open_rows {Q : List Value → Prop} {t e : TypeId} {v : Value} {d : DataW H} {ps : List MemPlace} {s : Nat} (ht : P.underlying t = some (.slice e)) (hc : P.cellsOf e = s)
    (hQ : ∀ m cs y, DataW.trod enc P w 0 sp hd m e cs = some y → Q cs) (hval : v.cells.toList = [v]) (h : DataW.Trod enc P w 0 sp hd t v d ps) :
    ∃ rows : List (List Value), SlN w s v rows.length rows.flatten ∧ ∀ r ∈ rows, r.length = s ∧ Q r := by
  obtain ⟨fuel, h⟩ := h
  rw [hval] at h
  rcases DataW.trod_slice ht h with ⟨h0, _⟩ | ⟨a, len, cap, elems, rest, n, _, hv, _, _, hl, hm, hlen, hel, _⟩
  · simp only [List.cons.injEq, and_true] at h0
    subst h0
    exact ⟨[], SlN.nil w s, by simp⟩
  · simp only [List.cons.injEq, and_true] at hv
    subst hv
    rw [hc] at hel
    have step : ∀ i, i < len → ∃ r : List Value, (∀ j x, r[j]? = some x → w.cell? (a.add (i * s + j)) = some x) ∧ r.length = s ∧ Q r := by
      intro i hi
      have h1 := hel i hi
      rw [List.getElem?_eq_getElem (by omega), Option.bind_eq_some_iff] at h1
      obtain ⟨cs, hcs, hy⟩ := h1
      have h2 := World.cells?_some hcs
      refine ⟨cs, fun j x hx => ?_, h2.2.1, hQ _ _ _ hy⟩
      have hj : j < s := by
        have := (List.getElem?_eq_some_iff.1 hx).1
        have := h2.2.1
        omega
      have h3 := h2.2.2 j hj
      rw [addr_add_add] at h3
      rw [h3]; exact hx
    obtain ⟨rows, hrl, hr⟩ := forall_rows step
    have hrs : ∀ r ∈ rows, r.length = s ∧ Q r := by
      intro r hr'
      obtain ⟨i, hi⟩ := List.getElem?_of_mem hr'
      exact (hr i r hi).2
    refine ⟨rows, ?_, hrs⟩
    rw [hrl]
    have hfl : rows.flatten.length = len * s := by
      rw [List.length_flatten, ← hrl]
      clear hr hrl
      induction rows with
      | nil => simp
      | cons r rows ih =>
        simp only [List.map_cons, List.sum_cons, List.length_cons]
        rw [ih (fun r' h' => hrs r' (by simp [h'])), (hrs r (by simp)).1, Nat.add_mul]
        omega
    refine SlN.mk hfl hl hm (fun h => by cases h) ?_
    intro a' ha i x hx
    simp only [Option.some.injEq] at ha
    subst ha
    obtain ⟨k, j, r, rfl, hj, hk, hx'⟩ := flatten_at rows (fun r hr' => (hrs r hr').1) i x hx
    exact (hr k r hk).1 j x hx'
theorem slice_cells {t e : TypeId} {v : Value} {r : Reach} {b0 : Nat} (ht : P.underlying t = some (.slice e)) (hval : Value.okWide P w r b0 t v) : v.cells.toList = [v] := by
  simp only [Value.okWide, ht] at hval
  cases v <;> simp [Cell.okWide, Cell.ok, ht] at hval <;> rfl
/-- A slice of bytes that came in. -/
theorem u8s_of {t e : TypeId} {v : Value} {d : DataW H} {ps : List MemPlace} (ht : P.underlying t = some (.slice e)) (he : P.underlying e = some (.int .u8)) (hc : P.cellsOf e = 1) (hval : v.cells.toList = [v]) (h : DataW.Trod enc P w 0 sp hd t v d ps) :
    ∃ l : List UInt8, Sl w v (l.map u8v) := by
  obtain ⟨rows, hs, hr⟩ := open_rows (Q := fun cs => ∃ c : UInt8, cs = [u8v c]) ht hc (fun m cs y hy => by
    obtain ⟨n, rfl, _, hw⟩ := DataW.trod_int he hy
    simp only [Lit.wf, Bool.and_eq_true, decide_eq_true_eq] at hw
    refine ⟨UInt8.ofNat n.toNat, ?_⟩
    unfold u8v
    have h1 : IntKind.u8.min = 0 := rfl
    have h2 : IntKind.u8.max = 255 := rfl
    rw [h1, h2] at hw
    have : ((UInt8.ofNat n.toNat).toNat : Int) = n := by simp; omega
    rw [this]) hval h
  have : ∃ l : List UInt8, rows.flatten = l.map u8v ∧ l.length = rows.length := by
    clear hs
    induction rows with
    | nil => exact ⟨[], rfl, rfl⟩
    | cons r rows ih =>
      obtain ⟨l, hl, hn⟩ := ih fun r' h' => hr r' (by simp [h'])
      obtain ⟨_, c, rfl⟩ := hr r (by simp)
      exact ⟨c :: l, by simp [hl], by simp [hn]⟩
  obtain ⟨l, hl, hn⟩ := this
  refine ⟨l, ?_⟩
  unfold Sl
  rw [hl, ← hn] at hs
  simpa using hs
theorem open_u8s {t e : TypeId} {v : Value} {d : DataW H} {ps : List MemPlace} {r : Reach} {b0 : Nat} (ht : P.underlying t = some (.slice e)) (he : P.underlying e = some (.int .u8)) (hc : P.cellsOf e = 1) (hval : Value.okWide P w r b0 t v) (h : DataW.Trod enc P w 0 sp hd t v d ps) :
    ∃ l : List UInt8, Sl w v (l.map u8v) := u8s_of ht he hc (slice_cells ht hval) h
/-- Lists of bytes that came in. -/
theorem open_u8ss {t e e2 : TypeId} {v : Value} {d : DataW H} {ps : List MemPlace} {r : Reach} {b0 : Nat} (ht : P.underlying t = some (.slice e)) (he : P.underlying e = some (.slice e2)) (he2 : P.underlying e2 = some (.int .u8)) (hc : P.cellsOf e = 1) (hc2 : P.cellsOf e2 = 1) (hval : Value.okWide P w r b0 t v) (h : DataW.Trod enc P w 0 sp hd t v d ps) :
    ∃ ls : List (List UInt8), LL w v ls := by
  obtain ⟨rows, hs, hr⟩ := open_rows (Q := fun cs => ∃ (x : Value) (l : List UInt8), cs = [x] ∧ Sl w x (l.map u8v)) ht hc (fun m cs y hy => by
    have hx : ∃ x : Value, cs = [x] ∧ x.cells.toList = [x] := by
      rcases DataW.trod_slice he hy with ⟨h0, _⟩ | ⟨a, len, cap, elems, rest, n, _, hv, _⟩
      · exact ⟨_, h0, rfl⟩
      · exact ⟨_, hv, rfl⟩
    obtain ⟨x, rfl, hx⟩ := hx
    obtain ⟨l, hl⟩ := u8s_of he he2 hc2 hx (d := y.1) (ps := y.2) ⟨m, by rw [hx]; exact hy⟩
    exact ⟨x, l, rfl, hl⟩) (slice_cells ht hval) h
  have : ∃ (vs : List Value) (ls : List (List UInt8)), rows.flatten = vs ∧ vs.length = rows.length ∧ ls.length = rows.length ∧ ∀ (i : Nat) (x : Value) (l : List UInt8), vs[i]? = some x → ls[i]? = some l → Sl w x (l.map u8v) := by
    clear hs
    induction rows with
    | nil => exact ⟨[], [], rfl, rfl, rfl, fun i x l hx _ => by simp at hx⟩
    | cons r rows ih =>
      obtain ⟨vs, ls, h1, h2, h3, h4⟩ := ih fun r' h' => hr r' (by simp [h'])
      obtain ⟨_, x, l, rfl, hx⟩ := hr r (by simp)
      refine ⟨x :: vs, l :: ls, by simp [h1], by simp [h2], by simp [h3], fun i y m hy hm => ?_⟩
      cases i with
      | zero =>
        simp only [List.getElem?_cons_zero, Option.some.injEq] at hy hm
        subst hy hm; exact hx
      | succ i => exact h4 i y m (by simpa using hy) (by simpa using hm)
  obtain ⟨vs, ls, h1, h2, h3, h4⟩ := this
  refine ⟨ls, vs, ?_, by omega, h4⟩
  unfold Sl
  rw [h1, ← h2] at hs
  exact hs
/-- A slice of numbers of 64 bits that came in. -/
theorem open_u64s {t e : TypeId} {v : Value} {d : DataW H} {ps : List MemPlace} {r : Reach} {b0 : Nat} (ht : P.underlying t = some (.slice e)) (he : P.underlying e = some (.int .u64)) (hc : P.cellsOf e = 1) (hval : Value.okWide P w r b0 t v) (h : DataW.Trod enc P w 0 sp hd t v d ps) :
    ∃ l : List UInt64, Sl w v (l.map u64v) := by
  obtain ⟨rows, hs, hr⟩ := open_rows (Q := fun cs => ∃ c : UInt64, cs = [u64v c]) ht hc (fun m cs y hy => by
    obtain ⟨n, rfl, _, hw⟩ := DataW.trod_int he hy
    simp only [Lit.wf, Bool.and_eq_true, decide_eq_true_eq] at hw
    refine ⟨UInt64.ofNat n.toNat, ?_⟩
    have h1 : IntKind.u64.min = 0 := rfl
    have h2 : IntKind.u64.max = 18446744073709551615 := rfl
    rw [h1, h2] at hw
    rw [u64v_nat (by omega)]
    have : ((n.toNat : Nat) : Int) = n := by omega
    rw [this]) (slice_cells ht hval) h
  have : ∃ l : List UInt64, rows.flatten = l.map u64v ∧ l.length = rows.length := by
    clear hs
    induction rows with
    | nil => exact ⟨[], rfl, rfl⟩
    | cons r rows ih =>
      obtain ⟨l, hl, hn⟩ := ih fun r' h' => hr r' (by simp [h'])
      obtain ⟨_, c, rfl⟩ := hr r (by simp)
      exact ⟨c :: l, by simp [hl], by simp [hn]⟩
  obtain ⟨l, hl, hn⟩ := this
  refine ⟨l, ?_⟩
  unfold Sl
  rw [hl, ← hn] at hs
  simpa using hs
theorem trod_pair {t e : TypeId} {k : IntKind} {fuel : Nat} {c0 c1 : Value} {x : DataW H × List MemPlace} (ht : P.underlying t = some (.array 2 e)) (he : P.underlying e = some (.int k)) (hce : P.cellsOf e = 1)
    (h : DataW.trod enc P w 0 sp hd fuel t [c0, c1] = some x) : ∃ a b, c0 = .int k a ∧ c1 = .int k b ∧ (Lit.int k a).wf = true ∧ (Lit.int k b).wf = true := by
  cases fuel with
  | zero => simp [DataW.trod] at h
  | succ n =>
    unfold DataW.trod at h
    rw [ht] at h
    have r2 : List.range 2 = [0, 1] := rfl
    simp [r2, hce] at h
    obtain ⟨_, h⟩ := h
    cases h0 : DataW.trod enc P w 0 sp hd n e [c0] with
    | none => simp [h0] at h
    | some y0 =>
      cases h1 : DataW.trod enc P w 0 sp hd n e [c1] with
      | none => simp [h0, h1] at h
      | some y1 =>
        obtain ⟨a, ea, _, wa⟩ := DataW.trod_int he h0
        obtain ⟨b, eb, _, wb⟩ := DataW.trod_int he h1
        exact ⟨a, b, by simpa using ea, by simpa using eb, wa, wb⟩
/-- Two whole numbers that came in as an array. -/
theorem open_pair {t e : TypeId} {k : IntKind} {v : Value} {d : DataW H} {ps : List MemPlace} {r : Reach} {b0 : Nat} (ht : P.underlying t = some (.array 2 e)) (he : P.underlying e = some (.int k)) (hce : P.cellsOf e = 1) (hct : P.cellsOf t = 2)
    (hval : Value.okWide P w r b0 t v) (h : DataW.Trod enc P w 0 sp hd t v d ps) : ∃ a b, v = .agg #[.int k a, .int k b] ∧ (Lit.int k a).wf = true ∧ (Lit.int k b).wf = true := by
  simp only [Value.okWide, ht] at hval
  obtain ⟨cs, rfl, h2, _⟩ := hval
  rw [hct] at h2
  obtain ⟨l⟩ := cs
  match l, h2 with
  | [c0, c1], _ =>
    obtain ⟨fuel, h⟩ := h
    obtain ⟨a, b, rfl, rfl, wa, wb⟩ := trod_pair ht he hce h
    exact ⟨a, b, rfl, wa, wb⟩
end
theorem list_all {P : Program} {ts : List TypeId} (h : (ts.all fun t => P.readableRec t && decide (t < P.types.size)) = true) : ∀ t ∈ ts, P.readableRec t = true ∧ t < P.types.size := by
  intro t ht
  have := List.all_eq_true.1 h t ht
  simpa using this
theorem i64_of_wf {n : Int} (h : (Lit.int .i64 n).wf = true) : -9223372036854775808 ≤ n ∧ n ≤ 9223372036854775807 := by
  simp only [Lit.wf, Bool.and_eq_true, decide_eq_true_eq] at h
  exact h
theorem u32_of_wf {n : Int} (h : (Lit.int .u32 n).wf = true) : 0 ≤ n ∧ n ≤ 4294967295 := by
  simp only [Lit.wf, Bool.and_eq_true, decide_eq_true_eq] at h
  exact h
theorem u64_of_wf {n : Int} (h : (Lit.int .u64 n).wf = true) : 0 ≤ n ∧ n ≤ 18446744073709551615 := by
  simp only [Lit.wf, Bool.and_eq_true, decide_eq_true_eq] at h
  exact h
end Go.Vc
