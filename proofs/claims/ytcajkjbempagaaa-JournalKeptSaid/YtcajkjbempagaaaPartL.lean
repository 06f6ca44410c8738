/- What a file begins with: the document's Entries. -/
import Derived.Test.YtcajkjbempagaaaPartK
set_option linter.all false
section
set_option linter.unusedSimpArgs false
namespace Go.Proofs.Ytcajkjbempagaaa
open Go.Vc Go.Zig Go.Key Go.Vlt Go.Chk
set_option maxRecDepth 100000
def entL (nd nm : Nat) : List (List UInt8) → List En × Nat
  | [] => ([], 0)
  | x :: r => match decR nd nm x with
    | none => ([], 0)
    | some e => (e :: (entL nd nm r).1, (blkB x).length + (entL nd nm r).2)
theorem entL_none {nd nm : Nat} {x : List UInt8} {r : List (List UInt8)} (h : decR nd nm x = none) : entL nd nm (x :: r) = ([], 0) := by
  show (match decR nd nm x with | none => _ | some e => _) = _
  rw [h]
theorem entL_some {nd nm : Nat} {x : List UInt8} {r : List (List UInt8)} {e : En} (h : decR nd nm x = some e) : entL nd nm (x :: r) = (e :: (entL nd nm r).1, (blkB x).length + (entL nd nm r).2) := by
  show (match decR nd nm x with | none => _ | some e => _) = _
  rw [h]
theorem rdE_ent (nd nm : Nat) : ∀ (n : Nat) (b : List UInt8), b.length ≤ n → rdE nd nm b = entL nd nm (blks b).1
  | 0, b, hb => by
    have : b = [] := List.length_eq_zero_iff.1 (by omega)
    subst this
    rw [rdE_none (by decide), blks_nil]; rfl
  | n + 1, b, hb => by
    cases hf : fst b with
    | none => rw [rdE_none hf, blks_none hf]; rfl
    | some p =>
      have hp := fst_some hf
      have hl := (fst_blkB hf).1
      rw [blks_some hf]
      cases hd : decR nd nm p.1 with
      | none => rw [rdE_bad hf hd, entL_none hd]
      | some e => rw [rdE_some hf hd, entL_some hd, rdE_ent nd nm n (b.drop p.2) (by rw [List.length_drop]; omega), hl]
theorem blks_in : ∀ (n : Nat) (b : List UInt8), b.length ≤ n → (blks b).1.length ≤ b.length ∧ ∀ x ∈ (blks b).1, x.length ≤ b.length
  | 0, b, hb => by
    have : b = [] := List.length_eq_zero_iff.1 (by omega)
    subst this
    rw [blks_nil]; exact ⟨Nat.le_refl _, by simp⟩
  | n + 1, b, hb => by
    cases hf : fst b with
    | none => rw [blks_none hf]; exact ⟨by simp, by simp⟩
    | some p =>
      have hp := fst_some hf
      obtain ⟨i1, i2⟩ := blks_in n (b.drop p.2) (by rw [List.length_drop]; omega)
      rw [List.length_drop] at i1 i2
      rw [blks_some hf]
      refine ⟨by rw [List.length_cons]; omega, fun x hx => ?_⟩
      rcases List.mem_cons.1 hx with rfl | hx
      · omega
      · have := i2 x hx; omega
def PtV (w0 : World) (e : TypeId) (cs : Array Value) (v : Value) (w : World) : Prop := ∃ b, v = .pointer (some ⟨b, 0, none⟩) ∧ w0.heap.size ≤ b ∧ Blk w b cs e
theorem stb_pt (w0 w1 : World) (e : TypeId) (cs : Array Value) : Stb w1 (PtV w0 e cs) := by
  rintro v w w' _ hl ⟨b, h1, h2, h3⟩
  exact ⟨b, h1, h2, h3.chg (Chg.of_later (ks := []) hl) (by simp)⟩
def EjT (B : Nat) (e : En) (v : Value) (w : World) : Prop := ∃ y : Ej, y.e = e ∧ v = .tuple #[.agg (ejC y).toArray, .int .i64 0] ∧ EjO w B y
def EjV (B : Nat) (e : En) (v : Value) (w : World) : Prop := ∃ y : Ej, y.e = e ∧ v = .agg (ejC y).toArray ∧ EjO w B y
theorem stb_ejT (w0 : World) (B : Nat) (e : En) : Stb w0 (EjT B e) := by
  rintro v w w' _ hl ⟨y, h1, h2, h3⟩
  exact ⟨y, h1, h2, h3.later hl⟩
theorem stb_ejV (w0 : World) (B : Nat) (e : En) : Stb w0 (EjV B e) := by
  rintro v w w' _ hl ⟨y, h1, h2, h3⟩
  exact ⟨y, h1, h2, h3.later hl⟩
theorem exe_ext {P : Program} {t i : Nat} {ty : TypeId} {σ : Env} {w : World} {cs : Array Value} {u : Value} (h : σ t = .tuple cs) (hu : cs[i]? = some u) : exe P (.extract (.tmp t) i) ty σ w = .ok (.value u) w := by
  unfold exe
  simp [execOp, ev, h, hu, val, Instr.extract]
theorem nR_ext {P : Program} {t i : Nat} {ty : TypeId} {rs : List Nat} {Ns : NS} {σ : Env} {w : World} {Kv : Value → Prop} {Kn : (Value → World → Prop) → Prop} {V V' : Value → World → Prop} (ht : t ∈ rs) (hf : findN t Ns = some V) (hV' : Stb w V')
    (h : ∀ v w', V v w' → ∃ cs : Array Value, v = .tuple cs ∧ ∃ u, cs[i]? = some u ∧ V' u w') (hk : Kn V') : nR P (.extract (.tmp t) i) ty rs Ns σ w Kv Kn :=
  .inr ⟨V', hV', fun σ' w' _ hp => by
    obtain ⟨cs, h1, u, h2, h3⟩ := h _ _ (psis_V hp ht hf)
    exact nUp_pure (v := u) (exe_ext h1 h2) h3, hk⟩
theorem nR_extc {P : Program} {t i : Nat} {ty : TypeId} {rs : List Nat} {Ns : NS} {σ : Env} {w : World} {Kv : Value → Prop} {Kn : (Value → World → Prop) → Prop} {V : Value → World → Prop} {u : Value} (ht : t ∈ rs) (hf : findN t Ns = some V)
    (h : ∀ v w', V v w' → ∃ cs : Array Value, v = .tuple cs ∧ cs[i]? = some u) (hk : Kv u) : nR P (.extract (.tmp t) i) ty rs Ns σ w Kv Kn :=
  .inl ⟨u, fun σ' w' _ hp => by
    obtain ⟨cs, h1, h2⟩ := h _ _ (psis_V hp ht hf)
    exact nUp_pure (v := u) (exe_ext h1 h2) rfl, hk⟩
abbrev ejC0 : List Value := [.bool false, .int .i64 0, .int .i64 0, .slice none 0 0, .slice none 0 0]
set_option maxHeartbeats 2000000 in
theorem entries_c (dv mv v : Value) (d m : List ByteArray) (b : List UInt8) (w : World) (h : ScIs w dv mv d m) (hd : d.length ≤ 1000) (hm : m.length ≤ 1000) (hb : Sl w v (b.map u8v)) (hbl : b.length ≤ 16777216) :
    FnC Try.prog 12 #[v, scV dv mv] w fun r w' => ReadR w' w.heap.size r d.length m.length b ∧ Later w w' := by
  unfold scV
  obtain ⟨vo, vc, rfl⟩ := Sl.slice hb
  refine enter12 _ _ ?_
  unfold B12
  obtain ⟨l1, s1, F⟩ := box2 w dv mv 24
  have eca : (Value.agg #[dv, mv]).cells = #[dv, mv] := rfl
  repeat' (first | (simp (disch := omega) only [push_cast, seval, eca, s1]) | refine iX ?_ ?_ <;> intros | refine aI (by omega) ?_ | fail)
  generalize w.alloc (.cells #[dv, mv] 24) = w1 at *
  repeat' (first | (simp (disch := omega) only [push_cast, seval]) | refine iX ?_ ?_ <;> intros | refine aI (by omega) ?_ | refine dq ?_)
  refine (rBlocks_c _ b w1 (Sl.later hb l1) (by omega)).mono ?_
  rintro _ w2 ⟨⟨bv, rfl, hbv⟩, l2⟩
  have l02 := l1.trans l2
  obtain ⟨hB1, hB2⟩ := blks_in b.length b (Nat.le_refl _)
  simp only [ReadR, rdE_ent d.length m.length b.length b (Nat.le_refl _)]
  generalize (blks b).1 = L at *
  obtain ⟨bo, bc, rfl, _⟩ := hbv.slice
  have hs2 := l2.size
  repeat' (first | (simp (disch := omega) only [push_cast, seval]) | refine iX ?_ ?_ <;> intros | refine aI (by omega) ?_ | refine dq ?_)
  refine vc_loop W12_0 (fun p : Nat × Nat × Value => [(6, p.2.2), (7, .int .i64 (p.2.1 : Int)), (10, .int .i64 (p.1 : Int))])
    (fun p w' => p.1 ≤ L.length ∧ Later w2 w' ∧ p.2.1 ≤ 16777300 * p.1 ∧ ∃ es : List Ej, OwnJ w' w2.heap.size p.2.2 es ∧ (∀ e ∈ es, EjO w' w2.heap.size e) ∧ es.length ≤ p.1 ∧ entL d.length m.length L = (es.map Ej.e ++ (entL d.length m.length (L.drop p.1)).1, p.2.1 + (entL d.length m.length (L.drop p.1)).2)) (fun p => L.length - p.1) (0, 0, .slice none 0 0) (by decide) ?_ ?_ ?_
  · simp (disch := omega) only [push_cast, seval]
  · exact ⟨by omega, Later.refl _, by simp, [], OwnR.nil _ _ _, by simp, by simp, by simp⟩
  rintro ⟨i, n, v⟩ uu w3 ⟨hi, l3, hn, es, ho, hes, hel, hrd⟩
  dsimp only at hi hn ho hel hrd
  obtain ⟨oo, oc, rfl⟩ := own_form ho
  have l03 := l02.trans l3
  by_cases hlt : i < L.length
  · obtain ⟨ad, xv, rfl, cx, hx⟩ := (hbv.later l3).at hlt
    have hxl := hB2 _ (List.getElem_mem hlt)
    have hdr : L.drop i = L[i] :: L.drop (i + 1) := List.drop_eq_getElem_cons hlt
    rw [hdr] at hrd
    generalize L[i] = x at *
    obtain ⟨xo, xc, rfl⟩ := hx.slice
    obtain ⟨f0, f1, f2⟩ := F w3 (l2.trans l3)
    cases hde : decR d.length m.length x with
    | none =>
      rw [entL_none hde, List.append_nil] at hrd
      repeat' (first | (simp (disch := omega) only [push_cast, seval]) | refine iX ?_ ?_ <;> intros | refine aI (by omega) ?_ | fail)
      refine drawnS_k 10 ?_
      repeat' (first | (simp (disch := omega) only [push_cast, seval, f2, cx]) | refine iX ?_ ?_ <;> intros | refine aI (by omega) ?_ | fail)
      refine NFn.fix hb32 (v := .tuple #[.agg (ejC ejZ).toArray, .int .i64 191]) (fun w' hl => ?_) ?_
      · refine (ddecode_c dv mv _ d m x w' (h.later (l03.trans hl)) hd hm (hx.later hl) (by omega)).mono ?_
        rintro u w'' ⟨hu, hl'⟩
        rcases hu with ⟨_, rfl⟩ | ⟨z, hz1, _⟩
        · exact ⟨rfl, hl'⟩
        · rw [hde] at hz1; cases hz1
      repeat' (first | (simp (disch := omega) only [push_cast, seval]) | refine iX ?_ ?_ <;> intros | refine aI (by omega) ?_ | fail)
      refine nA_of _ (PtV w3 43 #[.bool false, .int .i64 0, .int .i64 0, .slice none 0 0, .slice none 0 0]) (stb_pt _ _ _ _) (fun w' hl => ?_) ?_
      · repeat' (first | (simp (disch := omega) only [push_cast, seval]) | refine iX ?_ ?_ <;> intros | refine aI (by omega) ?_ | fail)
        exact ⟨later_alloc _ _, w'.heap.size, rfl, hl.size, Blk.new _ _ _⟩
      repeat' (first | (simp (disch := omega) only [push_cast, seval]) | refine iX ?_ ?_ <;> intros | refine aI (by omega) ?_ | fail)
      refine ⟨rfl, fun w6 l6 => ?_⟩
      rintro _ ⟨b8, rfl, hb8, B8⟩
      refine ⟨by simp (disch := omega) only [push_cast, seval, implies_true, and_self], ?_⟩
      repeat' (first | (simp (disch := omega) only [push_cast, seval]) | refine iX ?_ ?_ <;> intros | refine aI (by omega) ?_ | fail)
      refine vStore_blk (l := ejC0) (xs := ejC ejZ) B8 rfl rfl (ej_one (w := w6) ⟨Sl.nil _, Sl.nil _⟩) ?_
      intro w7 B7 c7
      have l37 := Chg.later l6 c7 (by intro j hj; rw [List.mem_singleton.1 hj]; exact hb8)
      repeat' (first | (simp (disch := omega) only [push_cast, seval]) | refine iX ?_ ?_ <;> intros | refine aI (by omega) ?_ | refine dq ?_)
      refine ⟨⟨_, es, by rw [hrd]; rfl, OwnR.base (ho.later l37) (by omega), fun e he => ((hes e he).later l37).base (by omega), by rw [hrd]⟩, l03.trans l37⟩
    | some e =>
      rw [entL_some hde] at hrd
      dsimp only at hrd
      repeat' (first | (simp (disch := omega) only [push_cast, seval]) | refine iX ?_ ?_ <;> intros | refine aI (by omega) ?_ | fail)
      refine drawnS_k 10 ?_
      repeat' (first | (simp (disch := omega) only [push_cast, seval, f2, cx]) | refine iX ?_ ?_ <;> intros | refine aI (by omega) ?_ | fail)
      refine NFn.of hb32 (EjT w2.heap.size e) (stb_ejT _ _ _) (fun w' hl => ?_) ?_
      · refine (ddecode_c dv mv _ d m x w' (h.later (l03.trans hl)) hd hm (hx.later hl) (by omega)).mono ?_
        rintro u w'' ⟨hu, hl'⟩
        rcases hu with ⟨hn, _⟩ | ⟨z, hz1, rfl, hz2⟩
        · rw [hde] at hn; cases hn
        · rw [hde] at hz1
          exact ⟨⟨z, (Option.some.inj hz1).symm, rfl, hz2.base (l3.trans hl).size⟩, hl'⟩
      repeat' (first | (simp (disch := omega) only [push_cast, seval]) | refine iX ?_ ?_ <;> intros | refine aI (by omega) ?_ | fail)
      refine nR_move (by simp) rfl (stb_ejT _ _ _) ?_
      repeat' (first | (simp (disch := omega) only [push_cast, seval]) | refine iX ?_ ?_ <;> intros | refine aI (by omega) ?_ | fail)
      refine nR_ext (V := EjT w2.heap.size e) (V' := EjV w2.heap.size e) (by simp) rfl (stb_ejV _ _ _) (fun v w' hv => ?_) ?_
      · obtain ⟨q, hq, rfl, hE⟩ := hv
        exact ⟨_, rfl, .agg (ejC q).toArray, rfl, q, hq, rfl, hE⟩
      repeat' (first | (simp (disch := omega) only [push_cast, seval]) | refine iX ?_ ?_ <;> intros | refine aI (by omega) ?_ | fail)
      refine nR_extc (V := EjT w2.heap.size e) (u := .int .i64 0) (by simp) rfl (fun v w' hv => ?_) ?_
      · obtain ⟨q, hq, rfl, hE⟩ := hv
        exact ⟨_, rfl, rfl⟩
      repeat' (first | (simp (disch := omega) only [push_cast, seval]) | refine iX ?_ ?_ <;> intros | refine aI (by omega) ?_ | fail)
      refine nA_of _ (PtV w3 43 #[.bool false, .int .i64 0, .int .i64 0, .slice none 0 0, .slice none 0 0]) (stb_pt _ _ _ _) (fun w' hl => ?_) ?_
      · repeat' (first | (simp (disch := omega) only [push_cast, seval]) | refine iX ?_ ?_ <;> intros | refine aI (by omega) ?_ | fail)
        exact ⟨later_alloc _ _, w'.heap.size, rfl, hl.size, Blk.new _ _ _⟩
      repeat' (first | (simp (disch := omega) only [push_cast, seval]) | refine iX ?_ ?_ <;> intros | refine aI (by omega) ?_ | fail)
      refine ⟨rfl, fun w6 l6 => ?_⟩
      rintro _ ⟨b8, rfl, hb8, B8⟩ _ ⟨y, hy, rfl, hyO⟩ _ ⟨y2, hy2, rfl, _⟩ _ _
      refine ⟨by simp (disch := omega) only [push_cast, seval, implies_true, and_self], ?_⟩
      repeat' (first | (simp (disch := omega) only [push_cast, seval]) | refine iX ?_ ?_ <;> intros | refine aI (by omega) ?_ | fail)
      refine vStore_blk (l := ejC0) (xs := ejC y) B8 rfl rfl (ej_one hyO.is) ?_
      intro w7 B7 c7
      have l37 := Chg.later l6 c7 (by intro j hj; rw [List.mem_singleton.1 hj]; exact hb8)
      have hy7 : EjO w7 w2.heap.size y := ⟨own_chg_ty hyO.dO B8 (by decide) c7, own_chg_ty hyO.kO B8 (by decide) c7⟩
      have ho7 := ho.later l37
      have hes7 : ∀ e ∈ es, EjO w7 w2.heap.size e := fun e he => (hes e he).later l37
      have cx7 := l37.cell cx
      have f7 : cellsAt w7 ⟨b8, 0, none⟩ 5 = some (ejC y) := Blk.cellsAt (l := ejC y) B7
      repeat' (first | (simp (disch := omega) only [push_cast, seval, cx7]) | refine iX ?_ ?_ <;> intros | refine aI (by omega) ?_ | refine dq ?_)
      refine (rBlock_c _ x w7 (hx.later l37)).mono ?_
      rintro _ w8 ⟨⟨hbig, _⟩ | ⟨_, zv, rfl, hz⟩, l8⟩
      · exfalso; omega
      obtain ⟨zo, zc, rfl⟩ := hz.slice
      have f8 := cellsAt_later l8 5 f7
      have ho8 := ho7.later l8
      have hes8 : ∀ e ∈ es, EjO w8 w2.heap.size e := fun e he => (hes7 e he).later l8
      have hy8 := hy7.later l8
      have l28 := (l3.trans l37).trans l8
      have hs8 := l28.size
      have l9 := later_alloc w8 (.cells #[.bool y.e.tick, .int .i64 y.e.now, .int .i64 y.e.t, y.dv, y.kv] 43)
      have B9 := Blk.new w8 #[.bool y.e.tick, .int .i64 y.e.now, .int .i64 y.e.t, y.dv, y.kv] 43
      have hbl := blkB_len x
      have hzl := zi_len (n := (x.length : Int)) (by unfold I64; omega)
      unfold ejC at f8
      repeat' (first | (simp (disch := omega) only [push_cast, seval, f8]) | refine iX ?_ ?_ <;> intros | refine aI (by omega) ?_ | refine dq ?_)
      refine vAppend_j (r := [y]) (ho8.later l9) (RecS.lit1 (ejC_len y) B9) (by intro e he; rw [List.mem_singleton.1 he]; exact (hy8.later l9).is) (by rw [List.length_singleton]; omega) (Nat.le_trans hs8 l9.size) ?_
      intro v10 w10 ho10 hg10 _
      have l210 := (l28.trans l9).appended (ho8.later l9) (Nat.le_refl _) hg10
      repeat' (first | (simp (disch := omega) only [push_cast, seval]) | refine iX ?_ ?_ <;> intros | refine aI (by omega) ?_ | refine dq ?_)
      refine ⟨rfl, (i + 1, n + (blkB x).length, v10), by simp (disch := omega) only [push_cast, seval], ⟨by dsimp only; omega, l210, by dsimp only; omega, es ++ [y], ho10, ?_, by rw [List.length_append, List.length_singleton]; dsimp only; omega, ?_⟩, by dsimp only; omega⟩
      · intro e he
        rcases List.mem_append.1 he with he | he
        · exact ((hes8 e he).later l9).grown (ho8.later l9) hg10
        · rw [List.mem_singleton.1 he]; exact (hy8.later l9).grown (ho8.later l9) hg10
      · dsimp only
        rw [hrd, List.map_append, List.map_singleton, List.append_assoc, hy]
        refine Prod.ext rfl ?_
        dsimp only
        omega
  · have hie : i = L.length := by omega
    subst hie
    rw [List.drop_length] at hrd
    have hrd : entL d.length m.length L = (es.map Ej.e, n) := by rw [hrd]; simp [entL]
    repeat' (first | (simp (disch := omega) only [push_cast, seval]) | refine iX ?_ ?_ <;> intros | refine aI (by omega) ?_ | refine dq ?_)
    refine ⟨⟨_, es, by rw [hrd], OwnR.base ho (by omega), fun e he => (hes e he).base (by omega), by rw [hrd]⟩, l03⟩
end Go.Proofs.Ytcajkjbempagaaa
end
section
namespace Go.Vc
variable {α : Type} {enc : α → List Value} {k : Nat}
theorem rec_take (hk : ∀ x, (enc x).length = k) (l : List α) : ∀ j : Nat, (l.map enc).flatten.take (j * k) = ((l.take j).map enc).flatten := by
  induction l with
  | nil => intro j; simp
  | cons p l ih =>
    intro j
    cases j with
    | zero => simp
    | succ j =>
      simp only [List.map_cons, List.flatten_cons, List.take_succ_cons]
      rw [List.take_append, hk, List.take_of_length_le (by rw [hk, Nat.add_mul]; omega), show (j + 1) * k - k = j * k by rw [Nat.add_mul]; omega, ih]
theorem rec_drop (hk : ∀ x, (enc x).length = k) (l : List α) : ∀ j : Nat, (l.map enc).flatten.drop (j * k) = ((l.drop j).map enc).flatten := by
  induction l with
  | nil => intro j; simp
  | cons p l ih =>
    intro j
    cases j with
    | zero => simp
    | succ j =>
      simp only [List.map_cons, List.flatten_cons, List.drop_succ_cons]
      rw [List.drop_append, hk, List.drop_of_length_le (by rw [hk, Nat.add_mul]; omega), show (j + 1) * k - k = j * k by rw [Nat.add_mul]; omega, ih, List.nil_append]
theorem RecS.pre (hk : ∀ x, (enc x).length = k) {w : World} {o : Option Addr} {n c : Nat} {l : List α} (h : RecS enc k w (.slice o n c) l) {j : Nat} (hj : j ≤ l.length) : RecS enc k w (.slice o j c) (l.take j) := by
  have hn := (SlN.len h).1
  subst hn
  have := SlN.preN h hj
  rw [rec_take hk] at this
  unfold RecS
  rw [List.length_take, Nat.min_eq_left hj]
  exact this
theorem RecS.from (hk : ∀ x, (enc x).length = k) {w : World} {o : Option Addr} {n c : Nat} {l : List α} (h : RecS enc k w (.slice o n c) l) {j : Nat} (hj : j ≤ l.length) : RecS enc k w (.slice (slAddr o j c k) (l.length - j) ((c : Int) - j).toNat) (l.drop j) := by
  obtain ⟨hn, hc, hm, hl, _⟩ := SlN.len h
  subst hn
  have := SlN.part h (l := (j : Int)) (k := (l.length : Int)) (m := (c : Int)) (by omega) (by omega) (by omega) (by omega) (by omega)
  rw [Int.toNat_natCast, Int.toNat_natCast, ← hl, List.take_length, rec_drop hk, show ((l.length : Int) - (j : Int)).toNat = l.length - j by omega] at this
  unfold RecS
  rw [List.length_drop]
  exact this
end Go.Vc
namespace Go.Proofs.Ytcajkjbempagaaa
open Go.Vc Go.Zig Go.Key Go.Vlt Go.Chk
set_option maxRecDepth 100000
theorem VS.grown {w w' : World} {bk r B : Nat} {s : Vst} {v : Value} {l : List Ej} (h : VS w bk r s) (ho : OwnJ w B v l) (g : w.grownBy w' v.ownBlock) (hb : bk < B) (hr : r < B) : VS w' bk r s := by
  obtain ⟨es, c, h1, h2⟩ := h
  have hge := own_ge ho
  refine ⟨es, c, VIs.chg h1 (Chg.of_grown g) (fun hm => by have := hge _ hm; omega) (fun hm => by have := hge _ hm; omega) (fun k hk cs hB => ?_), h2⟩
  refine own_ne (k := k) ho (o := .cells cs 5 (0, 0)) hB (fun cs' he => ?_) (Option.mem_toList.1 hk)
  injection he with _ h2
  exact absurd h2 (by decide)
theorem aApp_ok {k : ByteArray} {b : List UInt8} {s : Vst} (hk : nmOk k = true) (hf : s.fuse = -1) (hroom : tl s.L + b.length ≤ s.room) (hlen : s.L.length < 200) : aApp k b s = (0, ⟨s.room, -1, lPut ⟨k, oB k s.L ++ b, oS k s.L⟩ s.L⟩) := by
  have hb : brn s.fuse = -1 := by rw [hf]; rfl
  unfold aApp
  rw [hk, if_neg (by simp), hb, if_neg (by omega), if_neg (by omega)]
theorem oB_put (k k' : ByteArray) (b : List UInt8) (n : Nat) (L : List Fl) : oB k' (lPut ⟨k, b, n⟩ L) = if k' = k then b else oB k' L := by
  show ((lk k' _).map Prod.fst).getD [] = _
  rw [lk_put]
  by_cases he : k' = k
  · rw [if_pos he, if_pos he]; rfl
  · rw [if_neg he, if_neg he]; rfl
abbrev kB : ByteArray := ⟨#[98]⟩
abbrev kAll : ByteArray := ⟨#[97, 108, 108]⟩
structure PI (nd nm : Nat) (s : Vst) (ds : List En) (k i : Nat) (at' : Int) : Prop where
  hg : Good s
  hf : s.fuse = -1
  hroom : s.room = 16777216
  ha : oB kA s.L = fileE (ds.take k)
  hb : oB kB s.L = fileE (ds.drop k)
  hc : oB kAll s.L = fileE ds
  ht : tl s.L ≤ 4000 * i
  hn : s.L.length ≤ 2 * i
  hk : k ≤ ds.length
  hp : (i : Int) ≤ at' → k = ds.length
  hl : ds.length ≤ i
  hr : ∀ e ∈ ds, rgE nd nm e = true
theorem PI.skip {nd nm : Nat} {s : Vst} {ds : List En} {k i : Nat} {at' : Int} (h : PI nd nm s ds k i at') : PI nd nm s ds k (i + 1) at' :=
  ⟨h.hg, h.hf, h.hroom, h.ha, h.hb, h.hc, by have := h.ht; omega, by have := h.hn; omega, h.hk, fun hi => h.hp (by omega), by have := h.hl; omega, h.hr⟩
def nmP (i : Nat) (at' : Int) : ByteArray := if (i : Int) < at' then kA else kB
theorem nmP_ok (i : Nat) (at' : Int) : nmOk (nmP i at') = true := by
  unfold nmP; split <;> kernel_rfl
theorem PI.step {nd nm : Nat} {s : Vst} {ds : List En} {k i : Nat} {at' : Int} (h : PI nd nm s ds k i at') {e : En} (he : rgE nd nm e = true) (hi : i < 40) (hd : nd ≤ 20) (hm : nm ≤ 20) :
    (aJ nd nm (nmP i at') e s).1 = 0 ∧ (aJ nd nm kAll e (aJ nd nm (nmP i at') e s).2).1 = 0 ∧ PI nd nm (aJ nd nm kAll e (aJ nd nm (nmP i at') e s).2).2 (ds ++ [e]) (if (i : Int) < at' then k + 1 else k) (i + 1) at' := by
  have hl := (enc_len he).2
  have hbl := blkB_len (encE e)
  have hzl := zi_len (n := ((encE e).length : Int)) (by unfold I64; omega)
  have ht := h.ht
  have hn := h.hn
  have hroom := h.hroom
  obtain ⟨a1, a2, a3, a4, a5, a6⟩ := aJ_ok (nd := nd) (nm := nm) (k := nmP i at') (e := e) h.hg he (nmP_ok i at') h.hf (by omega) (by omega)
  have g1 : Good (aJ nd nm (nmP i at') e s).2 := aJ_good h.hg
  generalize hs1 : (aJ nd nm (nmP i at') e s).2 = s1 at *
  obtain ⟨b1, b2, b3, b4, b5, b6⟩ := aJ_ok (nd := nd) (nm := nm) (k := kAll) (e := e) g1 he (by kernel_rfl) a2 (by omega) (by omega)
  have g2 : Good (aJ nd nm kAll e s1).2 := aJ_good g1
  refine ⟨a1, b1, g2, b2, by omega, ?_, ?_, ?_, by omega, by omega, ?_, ?_, by rw [List.length_append, List.length_singleton]; have := h.hl; omega, ?_⟩
  · rw [b4, if_neg (by decide), a4]
    unfold nmP
    by_cases hlt : (i : Int) < at'
    · rw [if_pos hlt, if_pos hlt, if_pos rfl, h.ha]
      have hp := h.hp (by omega)
      subst hp
      rw [List.take_length, List.take_of_length_le (by simp), fileE_snoc]
    · rw [if_neg hlt, if_neg hlt, if_neg (by decide), h.ha, List.take_append_of_le_length h.hk]
  · rw [b4, if_neg (by decide), a4]
    unfold nmP
    by_cases hlt : (i : Int) < at'
    · rw [if_pos hlt, if_pos hlt, if_neg (by decide), h.hb]
      have hp := h.hp (by omega)
      subst hp
      rw [List.drop_length, List.drop_of_length_le (by simp)]
    · rw [if_neg hlt, if_neg hlt, if_pos rfl, h.hb, List.drop_append_of_le_length h.hk, fileE_snoc]
  · rw [b4, if_pos rfl, a4, if_neg (by unfold nmP; split <;> decide), h.hc, fileE_snoc]
  · rw [List.length_append, List.length_singleton]; have := h.hk; split <;> omega
  · intro hi'
    have hp := h.hp (by omega)
    rw [if_pos (by omega), List.length_append, List.length_singleton]; omega
  · intro x hx
    rcases List.mem_append.1 hx with hx | hx
    · exact h.hr x hx
    · rw [List.mem_singleton.1 hx]; exact he
theorem PI.zero {nd nm : Nat} {at' : Int} : PI nd nm (s0 16777216) [] 0 0 at' :=
  ⟨s0_good (by omega), rfl, rfl, rfl, rfl, rfl, by decide, by decide, Nat.le_refl _, fun _ => rfl, Nat.le_refl _, by simp⟩
theorem rdE_all {nd nm : Nat} (hn : 20 + 34 * nd + 10 * nm ≤ 16777216) {es : List En} (h : ∀ e ∈ es, rgE nd nm e = true) : rdE nd nm (fileE es) = (es, (fileE es).length) := by
  have := rdE_file hn es [] h
  rw [List.append_nil, rdE_none (b := []) (by decide), List.append_nil, Nat.add_zero] at this
  exact this
theorem fileE_len {nd nm : Nat} (hd : nd ≤ 20) (hm : nm ≤ 20) : ∀ {es : List En}, (∀ e ∈ es, rgE nd nm e = true) → (fileE es).length ≤ 2000 * es.length
  | [], _ => Nat.le_refl _
  | e :: es, h => by
    have hl := (enc_len (h e (by simp))).2
    have hbl := blkB_len (encE e)
    have hzl := zi_len (n := ((encE e).length : Int)) (by unfold I64; omega)
    have := fileE_len hd hm (es := es) fun x hx => h x (List.mem_cons_of_mem _ hx)
    have e1 : fileE (e :: es) = blkB (encE e) ++ fileE es := rfl
    rw [e1, List.length_append, List.length_cons]
    omega
end Go.Proofs.Ytcajkjbempagaaa
end
section
namespace Go.Proofs.Ytcajkjbempagaaa
open Go.Vc Go.Zig Go.Key Go.Vlt Go.Chk
set_option maxRecDepth 100000
theorem oS_put (k : ByteArray) (b : List UInt8) (n : Nat) (L : List Fl) : oS k (lPut ⟨k, b, n⟩ L) = n := by
  show ((lk k _).map Prod.snd).getD 0 = _
  rw [lk_put, if_pos rfl]; rfl
structure KI (nd nm : Nat) (s : Vst) (T A : List En) (i : Nat) : Prop where
  hg : Good s
  hroom : s.room = 16777216
  ht : tl s.L ≤ 2000 * i
  hn : s.L.length ≤ i
  hr : ∀ e ∈ A, rgE nd nm e = true
  hl : A.length ≤ i
  hx : ∃ R X, A = T ++ R ∧ oB kLog s.L = fileE T ++ X ∧ oS kLog s.L = (fileE T).length ∧ (s.fuse ≠ 0 → R = []) ∧ (X = [] ∨ ∃ e R', R = e :: R' ∧ X = blkB (encE e))
theorem KI.zero {nd nm : Nat} {s : Vst} (g : Good s) (hr : s.room = 16777216) (hL : s.L = []) : KI nd nm s [] [] 0 := by
  refine ⟨g, hr, by rw [hL]; decide, by rw [hL]; decide, by simp, Nat.le_refl _, [], [], rfl, by rw [hL]; rfl, by rw [hL]; rfl, fun _ => rfl, .inl rfl⟩
theorem KI.arm {nd nm : Nat} {n : Int} (h0 : 0 ≤ n) (h1 : n ≤ 100) : KI nd nm (aArm n (s0 16777216)).2 [] [] 0 := by
  have e : aArm n (s0 16777216) = (0, ⟨16777216, n, []⟩) := by unfold aArm; rw [if_neg (by omega)]; rfl
  have g := aArm_good (s := s0 16777216) (s0_good (by omega)) n (by omega)
  rw [e] at g ⊢
  exact KI.zero g rfl rfl
theorem KI.skip {nd nm : Nat} {s : Vst} {T A : List En} {i : Nat} (h : KI nd nm s T A i) : KI nd nm s T A (i + 1) :=
  ⟨h.hg, h.hroom, by have := h.ht; omega, by have := h.hn; omega, h.hr, by have := h.hl; omega, h.hx⟩
theorem KI.step {nd nm : Nat} {s : Vst} {T A : List En} {i : Nat} (h : KI nd nm s T A i) {e : En} (he : rgE nd nm e = true) (hi : i < 40) (hd : nd ≤ 20) (hm : nm ≤ 20) :
    ((aJ nd nm kLog e s).1 = 0 ∧ KI nd nm (aJ nd nm kLog e s).2 (T ++ [e]) (A ++ [e]) (i + 1)) ∨ ((aJ nd nm kLog e s).1 = 272 ∧ (aJ nd nm kLog e s).2.fuse = 0 ∧ KI nd nm (aJ nd nm kLog e s).2 T (A ++ [e]) (i + 1)) := by
  have hl := (enc_len he).2
  have hbl := blkB_len (encE e)
  have hzl := zi_len (n := ((encE e).length : Int)) (by unfold I64; omega)
  have ht := h.ht
  have hn := h.hn
  have hroom := h.hroom
  have gJ : Good (aJ nd nm kLog e s).2 := aJ_good h.hg
  have hkl : nmOk kLog = true := by kernel_rfl
  obtain ⟨R, X, hA, hB, hS, hR, hX⟩ := h.hx
  have hrA : ∀ x ∈ A ++ [e], rgE nd nm x = true := fun x hx => by
    rcases List.mem_append.1 hx with hx | hx
    · exact h.hr x hx
    · rw [List.mem_singleton.1 hx]; exact he
  have hlA : (A ++ [e]).length ≤ i + 1 := by rw [List.length_append, List.length_singleton]; have := h.hl; omega
  by_cases h0 : brn s.fuse = 0
  · have ea : aJ nd nm kLog e s = (272, s.burn) := by
      have e1 : aApp kLog (blkB (encE e)) s = (272, s.burn) := by unfold aApp; rw [hkl, if_neg (by simp), if_pos h0]
      unfold aJ
      rw [if_pos he, e1, if_neg (by simp)]
    rw [ea] at gJ ⊢
    refine .inr ⟨rfl, h0, gJ, hroom, by show tl s.L ≤ _; omega, by show s.L.length ≤ _; omega, hrA, hlA, R ++ [e], X, by rw [hA, List.append_assoc], hB, hS, fun hne => absurd h0 hne, ?_⟩
    rcases hX with rfl | ⟨x, R', rfl, hX⟩
    · exact .inl rfl
    · exact .inr ⟨x, R' ++ [e], rfl, hX⟩
  · have hf : s.fuse ≠ 0 := fun hf => h0 (by rw [hf]; rfl)
    have hR := hR hf
    subst hR
    have hX : X = [] := by
      rcases hX with rfl | ⟨x, R', h1, _⟩
      · rfl
      · cases h1
    subst hX
    rw [List.append_nil] at hA hB
    subst hA
    have e1 : aApp kLog (blkB (encE e)) s = (0, ⟨s.room, brn s.fuse, lPut ⟨kLog, oB kLog s.L ++ blkB (encE e), oS kLog s.L⟩ s.L⟩) := by
      unfold aApp
      rw [hkl, if_neg (by simp), if_neg h0, if_neg (by omega)]
    have hlk : lk kLog (lPut ⟨kLog, oB kLog s.L ++ blkB (encE e), oS kLog s.L⟩ s.L) ≠ none := by rw [lk_put, if_pos rfl]; simp
    obtain ⟨t1, t2⟩ := tl_put (f := ⟨kLog, oB kLog s.L ++ blkB (encE e), oS kLog s.L⟩) h.hg.srd
    have hs1 := srd_put (f := ⟨kLog, oB kLog s.L ++ blkB (encE e), oS kLog s.L⟩) h.hg.srd
    dsimp only at t1 t2
    rw [List.length_append] at t1
    have t3 : (lPut ⟨kLog, oB kLog s.L ++ blkB (encE e), oS kLog s.L⟩ s.L).length ≤ i + 1 := by rw [t2]; split <;> omega
    have b1 : oB kLog (lPut ⟨kLog, oB kLog s.L ++ blkB (encE e), oS kLog s.L⟩ s.L) = fileE A ++ blkB (encE e) := by rw [oB_put, if_pos rfl, hB]
    have b2 : oS kLog (lPut ⟨kLog, oB kLog s.L ++ blkB (encE e), oS kLog s.L⟩ s.L) = (fileE A).length := by rw [oS_put, hS]
    by_cases h2 : brn (brn s.fuse) = 0
    · have ea : aJ nd nm kLog e s = (272, ⟨s.room, brn (brn s.fuse), lPut ⟨kLog, oB kLog s.L ++ blkB (encE e), oS kLog s.L⟩ s.L⟩) := by
        unfold aJ
        rw [if_pos he, e1, if_pos rfl]
        unfold aSync
        dsimp only
        rw [if_neg (by simp [hkl, hlk]), if_pos h2]; rfl
      rw [ea] at gJ ⊢
      refine .inr ⟨rfl, h2, gJ, hroom, by show tl (lPut _ _) ≤ _; omega, t3, hrA, hlA, [e], blkB (encE e), rfl, b1, b2, fun hne => absurd h2 hne, .inr ⟨e, [], rfl, rfl⟩⟩
    · generalize hL1 : lPut ⟨kLog, oB kLog s.L ++ blkB (encE e), oS kLog s.L⟩ s.L = L1 at *
      have ea : aJ nd nm kLog e s = (0, ⟨s.room, brn (brn s.fuse), lPut ⟨kLog, oB kLog L1, (oB kLog L1).length⟩ L1⟩) := by
        unfold aJ
        rw [if_pos he, e1, if_pos rfl]
        unfold aSync
        dsimp only
        rw [if_neg (by simp [hkl, hlk]), if_neg h2]
      rw [ea] at gJ ⊢
      obtain ⟨t4, t5⟩ := tl_put (f := ⟨kLog, oB kLog L1, (oB kLog L1).length⟩) hs1
      dsimp only at t4 t5
      rw [if_neg hlk] at t5
      have hfl : fileE (A ++ [e]) = fileE A ++ blkB (encE e) := fileE_snoc A e
      refine .inl ⟨rfl, gJ, hroom, by show tl (lPut _ _) ≤ _; omega, by show (lPut _ _).length ≤ _; omega, hrA, hlA, [], [], by rw [List.append_nil], ?_, ?_, fun _ => rfl, .inl rfl⟩
      · show oB kLog (lPut _ _) = _
        rw [oB_put, if_pos rfl, b1, hfl, List.append_nil]
      · show oS kLog (lPut _ _) = _
        rw [oS_put, b1, hfl]
theorem oB_cr (k : ByteArray) (keep : Int) (s : Vst) : oB k (aCrash keep s).L = (oB k s.L).take (oS k s.L + min (max keep 0).toNat ((oB k s.L).length - oS k s.L)) := by
  show ((lk k (s.L.map (crF keep))).map Prod.fst).getD [] = _
  rw [lk_cr]
  unfold oB oS
  cases lk k s.L with
  | none => simp
  | some p => rfl
theorem KI.crash {nd nm : Nat} {s : Vst} {T A : List En} {i : Nat} (h : KI nd nm s T A i) (hd : nd ≤ 20) (hm : nm ≤ 20) (keep : Int) :
    (oB kLog (aCrash keep s).L).length ≤ 2000 * i ∧ ∃ n, (rdE nd nm (oB kLog (aCrash keep s).L)).1 = A.take n ∧ T.length ≤ n ∧ n ≤ T.length + 1 ∧ n ≤ A.length := by
  obtain ⟨R, X, hA, hB, hS, hR, hX⟩ := h.hx
  have hn0 : 20 + 34 * nd + 10 * nm ≤ 16777216 := by omega
  have hle : ((oB kLog s.L).length : Int) ≤ tl s.L := oB_le
  have ht := h.ht
  have hrT : ∀ e ∈ T, rgE nd nm e = true := fun e he => h.hr e (by rw [hA]; exact List.mem_append_left _ he)
  have hc : oB kLog (aCrash keep s).L = fileE T ++ X.take (min (max keep 0).toNat X.length) := by
    rw [oB_cr, hS, hB, List.length_append, Nat.add_sub_cancel_left, List.take_length_add_append]
  have hlen : (oB kLog (aCrash keep s).L).length ≤ (oB kLog s.L).length := by rw [oB_cr, List.length_take]; omega
  refine ⟨by omega, ?_⟩
  rw [hc, rdE_file hn0 T _ hrT]
  have hbase : A.take T.length = T := by rw [hA, List.take_left' rfl]
  have hlA : A.length = T.length + R.length := by rw [hA, List.length_append]
  rcases hX with rfl | ⟨e, R', rfl, rfl⟩
  · refine ⟨T.length, ?_, Nat.le_refl _, by omega, by omega⟩
    rw [List.take_nil, rdE_none (b := []) (by decide), hbase, List.append_nil]
  · have he : rgE nd nm e = true := h.hr e (by rw [hA]; simp)
    have hl := (enc_len he).2
    by_cases hj : (blkB (encE e)).length ≤ (max keep 0).toNat
    · refine ⟨T.length + 1, ?_, by omega, by omega, by rw [hlA, List.length_cons]; omega⟩
      rw [Nat.min_eq_right hj, List.take_length]
      have := rdE_all (nd := nd) (nm := nm) hn0 (es := [e]) (by intro x hx; rw [List.mem_singleton.1 hx]; exact he)
      have e1 : fileE [e] = blkB (encE e) := by simp [fileE]
      rw [e1] at this
      rw [this, hA, List.take_length_add_append]
      simp
    · refine ⟨T.length, ?_, Nat.le_refl _, by omega, by omega⟩
      rw [Nat.min_eq_left (by omega), rdE_none (fst_cut (b := encE e) (by omega) (by omega)), hbase, List.append_nil]
end Go.Proofs.Ytcajkjbempagaaa
end
