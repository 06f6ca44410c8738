/- Contracts: lists of one's own, rows of one's own, lists of rows of one's own. -/
import Derived.Test.YtnofalhkapmcnaaGreatPartG
set_option linter.all false
section
set_option linter.unusedSimpArgs false
namespace Go.Proofs.YtnofalhkapmcnaaGreat
open Go.Vc Go.Key Go.Stab
set_option maxRecDepth 100000
theorem cloneS_c (v : Value) (l : List ByteArray) (w : World) (h : StS w v l) (hl : l.length ≤ 1000000) : FnC Tryz.prog 50 #[v] w fun r w' => OwnS w' w.heap.size r l ∧ Later w w' := by
  have h0 := h
  obtain ⟨o, c, rfl, g1, g2, h, g3⟩ := h.openM
  refine enter50 _ ?_
  unfold B50
  cases o with
  | none =>
    obtain ⟨rfl, _⟩ := g3 rfl
    repeat' (first | (simp (disch := omega) only [push_cast, seval]) | refine iX ?_ ?_ <;> intros | refine aI (by omega) ?_ | refine dq ?_)
    have : OwnS w w.heap.size (.slice none 0 0) [] := own_nil w _ _ 1
    first | exact ⟨this, Later.refl _⟩ | exact Later.refl _
  | some a =>
    repeat' (first | (simp (disch := omega) only [push_cast, seval]) | refine iX ?_ ?_ <;> intros | refine aI (by omega) ?_ | refine dq ?_)
    have la := later_alloc w (.cells #[] 9)
    have hown : (w.alloc (.cells #[] 9)).ownsRow w.heap.size 9 1 (.slice (some ⟨w.heap.size, 0, none⟩) 0 0) 0 [] := own_lit w [] _ 1 0 rfl (by unfold maxLen; omega) (Nat.le_refl _)
    have hx : SlN (w.alloc (.cells #[] 9)) 1 (.slice (some a) l.length c) l.length (l.map Value.string) := by
      have := h.later la
      unfold Sl at this
      rwa [List.length_map] at this
    refine vAppend_own Tryz.underlying22 ti9 rfl (by decide) hown hx (by intro u hu; obtain ⟨x, _, rfl⟩ := List.mem_map.1 hu; rfl) (by unfold maxLen; omega) (by omega) (by simp) ?_
    intro v' w' ho hg _
    have hl' := la.appended hown (Nat.le_refl _) hg
    have ho' : OwnS w' w.heap.size v' l := by
      unfold OwnS
      simpa using ho
    repeat' (first | (simp (disch := omega) only [push_cast, seval]) | refine iX ?_ ?_ <;> intros | refine aI (by omega) ?_ | refine dq ?_)
    first | exact ⟨ho', hl'⟩ | exact hl'
theorem cloneA_c (v : Value) (l : List Ag) (w : World) (h : AgS w v l) (hl : l.length ≤ 1000000) : FnC Tryz.prog 137 #[v] w fun r w' => OwnA w' w.heap.size r l ∧ Later w w' := by
  have h0 := h
  obtain ⟨o, c, rfl, g1, g2⟩ := h.slice
  refine enter137 _ ?_
  unfold B137
  cases o with
  | none =>
    have hn : l = [] := List.length_eq_zero_iff.1 (((SlN.len h0).2.2.2.2 rfl).1)
    subst hn
    repeat' (first | (simp (disch := omega) only [push_cast, seval]) | refine iX ?_ ?_ <;> intros | refine aI (by omega) ?_ | refine dq ?_)
    have : OwnA w w.heap.size (.slice none 0 0) [] := OwnR.nil w _ _
    first | exact ⟨this, Later.refl _⟩ | exact Later.refl _
  | some a =>
    repeat' (first | (simp (disch := omega) only [push_cast, seval]) | refine iX ?_ ?_ <;> intros | refine aI (by omega) ?_ | refine dq ?_)
    have la := later_alloc w (.cells #[] 52)
    refine vAppend_rs agC_len agC_one Tryz.underlying53 ti52 rfl (by decide) (OwnR.lit0 w 52 (Nat.le_refl _)) (RecS.later h0 la) (by simp; omega) (by omega) (by simp) ?_
    intro v' w' ho hg _
    have hl' := la.appended (OwnR.lit0 (enc := agC) (k := 3) w 52 (Nat.le_refl _)) (Nat.le_refl _) hg
    rw [List.nil_append] at ho
    repeat' (first | (simp (disch := omega) only [push_cast, seval]) | refine iX ?_ ?_ <;> intros | refine aI (by omega) ?_ | refine dq ?_)
    first | exact ⟨ho, hl'⟩ | exact hl'
theorem stb_ownA (w0 : World) (B : Nat) (l : List Ag) : Stb w0 (fun v w => OwnA w B v l) := fun _ _ _ _ hl h => OwnR.later h hl
theorem own_c (e : El) (w : World) (h : EIs w e) (hd : e.d.length ≤ 1000000) (ha : e.a.length ≤ 1000000) : FnC Tryz.prog 112 #[elV e] w fun r w' => ∃ x y, r = elV { e with dv := x, av := y } ∧ EO w' w.heap.size { e with dv := x, av := y } ∧ Later w w' := by
  unfold elV
  refine enter112 _ ?_
  unfold B112
  have eca : (Value.agg #[.int .i64 e.t, e.dv, .int .i64 e.n, e.av]).cells = #[.int .i64 e.t, e.dv, .int .i64 e.n, e.av] := rfl
  have l1 := later_alloc w (.cells #[.int .i64 e.t, e.dv, .int .i64 e.n, e.av] 55)
  have B1 := Blk.new w #[.int .i64 e.t, e.dv, .int .i64 e.n, e.av] 55
  have s1 : (w.alloc (.cells #[.int .i64 e.t, e.dv, .int .i64 e.n, e.av] 55)).heap.size = w.heap.size + 1 := World.size_alloc w _
  repeat' (first | (simp (disch := omega) only [push_cast, seval, eca, s1]) | refine iX ?_ ?_ <;> intros | refine aI (by omega) ?_ | fail)
  generalize w.alloc (.cells #[.int .i64 e.t, e.dv, .int .i64 e.n, e.av] 55) = w1 at *
  have l2 := later_alloc w1 (.cells #[.int .i64 0, .slice none 0 0, .int .i64 0, .slice none 0 0] 55)
  have B2 := Blk.new w1 #[.int .i64 0, .slice none 0 0, .int .i64 0, .slice none 0 0] 55
  rw [s1] at B2
  generalize w1.alloc (.cells #[.int .i64 0, .slice none 0 0, .int .i64 0, .slice none 0 0] 55) = w2 at *
  have h2 := h.later (l1.trans l2)
  have B12 := B1.chg (Chg.of_later (ks := []) l2) (by simp)
  obtain ⟨a0, a1, a2, a3, _⟩ := box4_later B12 (Later.refl _)
  have hsz := (l1.trans l2).size
  refine drawn_k 7 ?_
  repeat' (first | (simp (disch := omega) only [push_cast, seval, a1, a3, addr_add_eq, Nat.zero_add]) | refine iX ?_ ?_ <;> intros | refine aI (by omega) ?_ | fail)
  refine NFn.of hb50 (fun v w' => OwnS w' w.heap.size v e.d) (stb_ownS _ _ _) (fun w' hl => (cloneS_c _ _ w' (h2.later hl).1 hd).mono fun v w'' hv => ⟨own_base hv.1 (Nat.le_trans hsz hl.size), hv.2⟩) ?_
  repeat' (first | (simp (disch := omega) only [push_cast, seval, a1, a3, addr_add_eq, Nat.zero_add]) | refine iX ?_ ?_ <;> intros | refine aI (by omega) ?_ | fail)
  refine NFn.of hb137 (fun v w' => OwnA w' w.heap.size v e.a) (stb_ownA _ _ _) (fun w' hl => (cloneA_c _ _ w' (h2.later hl).2 ha).mono fun v w'' hv => ⟨OwnR.base hv.1 (Nat.le_trans hsz hl.size), hv.2⟩) ?_
  repeat' (first | (simp (disch := omega) only [push_cast, seval, a1, a3, addr_add_eq, Nat.zero_add]) | refine iX ?_ ?_ <;> intros | refine aI (by omega) ?_ | fail)
  intro w3 l3 y hy x hx
  obtain ⟨ox, cx, rfl, _⟩ := Sl.openM (Sl.of_own hx : Sl w3 x (e.d.map Value.string))
  obtain ⟨oy, cy, rfl, _⟩ := RecS.slice (OwnR.s hy)
  have hE : EO w3 w.heap.size { e with dv := .slice ox e.d.length cx, av := .slice oy e.a.length cy } := ⟨hx, hy⟩
  have B13 := B12.chg (Chg.of_later (ks := []) l3) (by simp)
  have B23 := B2.chg (Chg.of_later (ks := []) l3) (by simp)
  have g1 : w3.cell? ⟨w.heap.size, 1, none⟩ = some e.dv := B13.cell 1
  have g2 := B13.frozen 1
  have l03 := (l1.trans l2).trans l3
  generalize hk : w.heap.size = k at *
  repeat' (first | (simp (disch := omega) only [push_cast, seval, g1, g2, addr_add_eq, Nat.zero_add]) | refine iX ?_ ?_ <;> intros | refine aI (by omega) ?_ | fail)
  have c4 := chg_setCell w3 (k := k) (i := 1) (ks := [k]) (by simp) (.slice ox e.d.length cx)
  have B14 := B13.set 1 (.slice ox e.d.length cx)
  have hE4 := hE.chg B13 c4
  have B24 := B23.chg c4 (by simp)
  generalize w3.setCell ⟨k, 1, none⟩ (.slice ox e.d.length cx) = w4 at *
  have g3 : w4.cell? ⟨k, 3, none⟩ = some e.av := B14.cell 3
  have g4 := B14.frozen 3
  repeat' (first | (simp (disch := omega) only [push_cast, seval, g3, g4, addr_add_eq, Nat.zero_add]) | refine iX ?_ ?_ <;> intros | refine aI (by omega) ?_ | fail)
  have c5 := chg_setCell w4 (k := k) (i := 3) (ks := [k]) (by simp) (.slice oy e.a.length cy)
  have B15 := B14.set 3 (.slice oy e.a.length cy)
  have hE5 := hE4.chg B14 c5
  have B25 := B24.chg c5 (by simp)
  generalize w4.setCell ⟨k, 3, none⟩ (.slice oy e.a.length cy) = w5 at *
  have g5 : cellsAt w5 ⟨k, 0, none⟩ 4 = some [.int .i64 e.t, .slice ox e.d.length cx, .int .i64 e.n, .slice oy e.a.length cy] := Blk.cellsAt (l := [.int .i64 e.t, .slice ox e.d.length cx, .int .i64 e.n, .slice oy e.a.length cy]) B15
  repeat' (first | (simp (disch := omega) only [push_cast, seval, g5]) | refine iX ?_ ?_ <;> intros | refine aI (by omega) ?_ | fail)
  refine vStore_blk (l := [.int .i64 0, .slice none 0 0, .int .i64 0, .slice none 0 0]) (xs := elC { e with dv := .slice ox e.d.length cx, av := .slice oy e.a.length cy }) B25 rfl rfl (elC_one hE5.is) ?_
  intro w6 B26 c6
  have hE6 := hE5.chg B25 c6
  repeat' (first | (simp (disch := omega) only [push_cast, seval]) | refine iX ?_ ?_ <;> intros | refine aI (by omega) ?_ | refine dq ?_)
  refine resK_cells (s := 4) (by simp (disch := omega) only [push_cast, seval]) (by rw [Tryz.underlying55]; exact sz55) (Blk.cellsAt (l := elC { e with dv := .slice ox e.d.length cx, av := .slice oy e.a.length cy }) B26) ?_
  repeat' (first | (simp (disch := omega) only [push_cast, seval]) | refine iX ?_ ?_ <;> intros | refine aI (by omega) ?_ | refine dq ?_)
  refine ⟨.slice ox e.d.length cx, .slice oy e.a.length cy, rfl, hE6, ?_⟩
  have hall : Chg w3 w6 [k, k + 1] := ((c4.mono (by simp)).trans (c5.mono (by simp))).trans (c6.mono (by simp))
  exact Chg.later l03 hall (by intro j hj; simp at hj; omega)
end Go.Proofs.YtnofalhkapmcnaaGreat
end
section
set_option linter.unusedSimpArgs false
namespace Go.Proofs.YtnofalhkapmcnaaGreat
open Go.Vc Go.Key Go.Stab
set_option maxRecDepth 100000
def ptr (k : Nat) : Value := .pointer (some ⟨k, 0, none⟩)
def El.abs (e : El) : Int × List ByteArray × Int × List Ag := (e.t, e.d, e.n, e.a)
theorem EO.obj {w w' : World} {B k : Nat} {o : Obj} {e : El} (h : EO w B e) (hb : w.heap[k]? = some o) (ho : o.isCells = false) (g : Chg w w' [k]) : EO w' B e := ⟨own_obj h.1 hb ho g, own_obj h.2 hb ho g⟩
theorem EO.cellOut {w w' : World} {B k : Nat} {cs : Array Value} {e : El} (h : EO w B e) (hb : Blk w k cs 33) (g : Chg w w' [k]) : EO w' B e := ⟨own_chg_ty h.1 hb (by decide) g, own_chg_ty h.2 hb (by decide) g⟩
theorem EO.grown {w w' : World} {B B' : Nat} {v : Value} {es : List El} {e : El} (h : EO w B' e) (hv : OwnE w B v es) (g : w.grownBy w' v.ownBlock) : EO w' B' e := by
  have gc := Chg.of_grown g
  obtain ⟨o, c, rfl, _⟩ := RecS.slice (OwnR.s hv)
  cases o with
  | none => exact h.later ⟨gc.os, gc.tape, gc.output, gc.size, fun k hk => gc.block k hk (by simp [Value.ownBlock])⟩
  | some a =>
    obtain ⟨k, rfl, _, _, ⟨cs, hb⟩, _⟩ := own_writes hv
    exact h.chg hb gc
theorem rvalues_c (o : Option Addr) (n c : Nat) (w : World) : FnC Tryz.prog 111 #[.slice o n c] w fun r w' => r = .func (.func 136) #[] #[ptr w.heap.size] ∧ Later w w' ∧ w'.heap.size = w.heap.size + 1 ∧ Blk w' w.heap.size #[.slice o n c] 33 := by
  refine enter111 _ ?_
  unfold B111 ptr
  have ec : (Value.slice o n c).cells = #[.slice o n c] := rfl
  repeat' (first | (simp (disch := omega) only [push_cast, seval, ec]) | refine iX ?_ ?_ <;> intros | refine aI (by omega) ?_ | refine dq ?_)
  have l1 := later_alloc w (.cells #[.slice o n c] 33)
  have s1 := World.size_alloc w (.cells #[.slice o n c] 33)
  have B1 := Blk.new w #[.slice o n c] 33
  first | exact ⟨rfl, l1, ⟨s1, B1⟩⟩ | exact ⟨l1, ⟨s1, B1⟩⟩ | exact ⟨s1, B1⟩
theorem vals_c (L k1 : Nat) (v : Value) (l : List El) (I : Nat → World → Prop) (w : World) (h0 : I 0 w) (hl : l.length ≤ 1000000) (hstab : ∀ i w1 w2, I i w1 → Later w1 w2 → I i w2)
    (hI : ∀ i w1, I i w1 → RecS elC 4 w1 v l ∧ Blk w1 k1 #[v] 33 ∧ ∀ e ∈ l, EIs w1 e)
    (hy : ∀ i (hi : i < l.length) w1, I i w1 → YldC Tryz.prog L #[elV l[i]] w1 fun b w2 => b = .bool true ∧ I (i + 1) w2) :
    FnC Tryz.prog 136 #[.func (.yield L) #[] #[], ptr k1] w fun _ w' => I l.length w' := by
  obtain ⟨r0, b0, _⟩ := hI 0 w h0
  obtain ⟨o, c, rfl, gc1, gc2⟩ := r0.slice
  refine enter136 _ _ ?_
  unfold B136 ptr
  have f0 : w.cell? ⟨k1, 0, none⟩ = some (.slice o l.length c) := b0.cell 0
  repeat' (first | (simp (disch := omega) only [push_cast, seval, f0]) | refine iX ?_ ?_ <;> intros | refine aI (by omega) ?_ | refine dq ?_)
  refine vc_loop W136_0 (fun i : Nat => [(7, .int .i64 (i : Int))]) (fun i w' => i ≤ l.length ∧ I i w') (fun i => l.length - i) 0 (by decide) ?_ ?_ ?_
  · simp (disch := omega) only [push_cast, seval]
  · exact ⟨by omega, h0⟩
  rintro i uu w1 ⟨hi, h1⟩
  by_cases hlt : i < l.length
  · obtain ⟨r1, b1, e1⟩ := hI i w1 h1
    obtain ⟨a, rfl, f1⟩ := RecS.at elC_len r1 hlt
    have he := e1 l[i] (List.getElem_mem _)
    have hone := elC_one he
    have hyi := hy i hlt
    generalize l[i] = e at *
    have l2 := later_alloc w1 (.cells (elC e).toArray 55)
    have B2 := Blk.new w1 (elC e).toArray 55
    have f2 : cellsAt (w1.alloc (.cells (elC e).toArray 55)) ⟨w1.heap.size, 0, none⟩ 4 = some (elC e) := Blk.cellsAt (l := elC e) B2
    repeat' (first | (simp (disch := omega) only [push_cast, seval, f1]) | refine iX ?_ ?_ <;> intros | refine aI (by omega) ?_ | refine dq ?_)
    refine vStore_new rfl rfl (by simpa using hone) ?_
    have h2 := hstab i w1 _ h1 l2
    generalize w1.alloc (.cells (elC e).toArray 55) = w2 at *
    generalize w1.heap.size = k2 at *
    repeat' (first | (simp (disch := omega) only [push_cast, seval, f2]) | refine iX ?_ ?_ <;> intros | refine aI (by omega) ?_ | refine dq ?_)
    refine vcUp_mono (hyi w2 h2) ?_
    rintro _ w3 ⟨rfl, h3⟩
    repeat' (first | (simp (disch := omega) only [push_cast, seval]) | refine iX ?_ ?_ <;> intros | refine aI (by omega) ?_ | refine dq ?_)
    exact ⟨rfl, i + 1, by simp (disch := omega) only [push_cast, seval], ⟨by omega, h3⟩, by dsimp only; omega⟩
  · have e : i = l.length := by omega
    subst e
    repeat' (first | (simp (disch := omega) only [push_cast, seval]) | refine iX ?_ ?_ <;> intros | refine aI (by omega) ?_ | refine dq ?_)
    exact h1
theorem vAppend_e {w : World} {K : Value → World → Prop} {ty : TypeId} {B : Nat} {v x : Value} {l r : List El} (hown : OwnE w B v l) (hx : RecS elC 4 w x r) (h1 : ∀ e ∈ r, EIs w e) (h63 : l.length + r.length ≤ 100000000) (hbase : B ≤ w.heap.size)
    (hK : ∀ v' w', OwnE w' B v' (l ++ r) → w.grownBy w' v.ownBlock → (v'.ownBlock = v.ownBlock ∨ v'.ownBlock = some w.heap.size) → K v' w') : vAppend Tryz.prog #[33, 33] ty #[v, x] K w := by
  refine vAppend_at Tryz.underlying33 ti55 rfl (by decide) hown hx ?_ (by unfold maxLen; omega) (by omega) hbase ?_
  · intro u hu
    obtain ⟨ys, hy, hu⟩ := List.mem_flatten.1 hu
    obtain ⟨p, hp, rfl⟩ := List.mem_map.1 hy
    exact elC_one (h1 p hp) u hu
  · intro v' w' ho hg hs
    refine hK v' w' ?_ hg hs
    unfold OwnE OwnR
    simpa using ho
theorem nR_build {P : Program} {t n : Nat} {ps : Array (Nat × Operand)} {ty : TypeId} {rs : List Nat} {Ns : NS} {σ : Env} {w : World} {Kv : Value → Prop} {Kn : (Value → World → Prop) → Prop} (V' : Value → World → Prop) (hV' : Stb w V')
    (h : ∀ σ' w', Later w w' → psis Ns σ w' σ' rs → vBuildSlice P t n (ps.map fun (i, x) => (i, ev σ' x)) (fun v w'' => Later w' w'' ∧ V' v w'') w') (hk : Kn V') : nR P (.buildSlice t n ps) ty rs Ns σ w Kv Kn :=
  .inr ⟨V', hV', fun σ' w' hl hp => nUp_val (h σ' w' hl hp), hk⟩
def OneV (B : Nat) (e : El) (v : Value) (w : World) : Prop := ∃ e' : El, v = elV e' ∧ e'.abs = e.abs ∧ EO w B e'
def OneR (B : Nat) (e : El) (v : Value) (w : World) : Prop := ∃ (e' : El) (b : Nat), v = .slice (some ⟨b, 0, none⟩) 1 1 ∧ e'.abs = e.abs ∧ EO w B e' ∧ Blk w b (elC e').toArray 55
theorem stb_oneV (w0 : World) (B : Nat) (e : El) : Stb w0 (OneV B e) := by
  rintro v w w' _ hl ⟨e', h1, h2, h3⟩
  exact ⟨e', h1, h2, h3.later hl⟩
theorem stb_oneR (w0 : World) (B : Nat) (e : El) : Stb w0 (OneR B e) := by
  rintro v w w' _ hl ⟨e', b, h1, h2, h3, h4⟩
  exact ⟨e', b, h1, h2, h3.later hl, h4.chg (Chg.of_later (ks := []) hl) (by simp)⟩
structure CpS (w w' : World) (L : Nat) (o : Obj) (v : Value) (l : List El) (i : Nat) : Prop where
  le : i ≤ l.length
  rec_ : w'.heap[L]? = some o
  def_ : w'.heap[w.heap.size + 2]? = some (.deferred (some []))
  later : Later w w'
  box : Blk w' (w.heap.size + 1) #[v] 33
  out : ∃ ov es, Blk w' w.heap.size #[ov] 33 ∧ OwnE w' w.heap.size ov es ∧ es.map El.abs = (l.take i).map El.abs ∧ ∀ e ∈ es, EO w' w.heap.size e
theorem CpS.step {w w1 w2 : World} {L : Nat} {o : Obj} {v : Value} {l : List El} {i : Nat} (h : CpS w w1 L o v l i) (hl : Later w1 w2) : CpS w w2 L o v l i := by
  obtain ⟨h0, h1, h2, h3, h4, ov, es, h5, h6, h7, h8⟩ := h
  exact ⟨h0, heap_later h1 hl, heap_later h2 hl, h3.trans hl, h4.chg (Chg.of_later (ks := []) hl) (by simp), ov, es, h5.chg (Chg.of_later (ks := []) hl) (by simp), h6.later hl, h7, fun e he => (h8 e he).later hl⟩
theorem CpS.put {w w1 : World} {L : Nat} {o : Obj} {v : Value} {l : List El} {i : Nat} (h : CpS w w1 L o v l i) (ho : o.isCells = false) (hL : L = w.heap.size + 3) (o' : Obj) : CpS w (w1.putObj L o') L o' v l i := by
  obtain ⟨h0, h1, h2, h3, h4, ov, es, h5, h6, h7, h8⟩ := h
  have g := chg_putObj w1 (L := L) (ks := [L]) (by simp) o'
  exact ⟨h0, World.putObj_heap_same (Array.getElem?_eq_some_iff.1 h1).1, heap_chg h2 g (by simp; omega), g.later h3 (by simp; omega), h4.chg g (by simp; omega), ov, es, h5.chg g (by simp; omega), own_obj h6 h1 ho g, h7, fun e he => (h8 e he).obj h1 ho g⟩
def CopyR (w : World) (B : Nat) (r : Value) (l : List El) : Prop := ∃ es, OwnE w B r es ∧ es.map El.abs = l.map El.abs ∧ ∀ e ∈ es, EO w B e
theorem copy_c (v : Value) (l : List El) (w : World) (h : RecS elC 4 w v l) (hes : ∀ e ∈ l, EIs w e ∧ e.d.length ≤ 1000000 ∧ e.a.length ≤ 1000000) (hl : l.length ≤ 100000) : FnC Tryz.prog 68 #[v] w fun r w' => CopyR w' w.heap.size r l ∧ Later w w' := by
  obtain ⟨o, c, rfl, gc1, gc2⟩ := h.slice
  refine enter68 _ ?_
  unfold B68
  have B0 := Blk.new w #[.slice none 0 0] 33
  have s0 := World.size_alloc w (.cells #[.slice none 0 0] 33)
  have l0 := later_alloc w (.cells #[.slice none 0 0] 33)
  repeat' (first | (simp (disch := omega) only [push_cast, seval]) | refine iX ?_ ?_ <;> intros | refine aI (by omega) ?_ | refine dq ?_)
  generalize w.alloc (.cells #[.slice none 0 0] 33) = w1 at *
  refine (rvalues_c o l.length c w1).mono ?_
  rintro _ w2 ⟨rfl, hl2, hs2, bx⟩
  have B2 := B0.chg (Chg.of_later (ks := []) hl2) (by simp)
  have hl02 := l0.trans hl2
  rw [s0] at bx hs2 ⊢
  repeat' (first | (simp (disch := omega) only [push_cast, seval]) | refine iX ?_ ?_ <;> intros | refine aI (by omega) ?_ | refine dq ?_)
  refine rngC_of hb136 ?_
  rintro D L rec hrec hD hL hyl
  have hDe : D = w.heap.size + 2 := by omega
  have hLe : L = w.heap.size + 3 := by omega
  have hrL : ((w2.alloc (.deferred (some []))).alloc (rec .ready .normal)).heap[L]? = some (rec .ready .normal) := by
    have := World.alloc_heap_new (w2.alloc (.deferred (some []))) (rec .ready .normal)
    rw [World.size_alloc] at this
    rw [hL]; exact this
  have hrD : ((w2.alloc (.deferred (some []))).alloc (rec .ready .normal)).heap[D]? = some (.deferred (some [])) := by
    rw [hD]
    exact heap_later (World.alloc_heap_new w2 _) (later_alloc _ _)
  have hl3 := later_two w2 (.deferred (some [])) (rec .ready .normal)
  generalize (w2.alloc (.deferred (some []))).alloc (rec .ready .normal) = w3 at *
  have hl03 := hl02.trans hl3
  have bx3 := bx.chg (Chg.of_later (ks := []) hl3) (by simp)
  have B3 := B2.chg (Chg.of_later (ks := []) hl3) (by simp)
  rw [hDe] at hrD
  have hstc := vals_c L (w.heap.size + 1) (.slice o l.length c) l (fun i w' => CpS w w' L (rec .ready .normal) (.slice o l.length c) l i) w3
    ⟨by omega, hrL, hrD, hl03, bx3, _, [], B3, OwnR.nil _ _ _, rfl, by simp⟩ (by omega) (fun i w1 w2 h1 h2 => h1.step h2) (fun i w1 h1 => ⟨h.later h1.later, h1.box, fun e he => (hes e he).1.later h1.later⟩) ?_
  · refine hstc.mono ?_
    rintro _ w4 hS
    have hP := hS.put (hrec _ _) hLe (rec .exhausted .normal)
    refine .inl ⟨hS.rec_, ?_⟩
    obtain ⟨_, _, p2, p3, _, ov, es, p5, p6, p7, p8⟩ := hP
    have c1 : (w4.putObj L (rec .exhausted .normal)).cell? ⟨w.heap.size, 0, none⟩ = some ov := p5.cell 0
    have g2 := chg_putObj (w4.putObj L (rec .exhausted .normal)) (L := w.heap.size + 2) (ks := [w.heap.size + 2]) (by simp) (.deferred none)
    have q6 := own_obj p6 p2 rfl g2
    have q8 := fun e he => (p8 e he).obj p2 rfl g2
    have q3 := g2.later p3 (by simp)
    rw [List.take_length] at p7
    subst hDe
    repeat' (first | (simp (disch := omega) only [push_cast, seval, c1]) | refine iX ?_ ?_ <;> intros | refine aI (by omega) ?_ | refine dq ?_)
    exact ⟨⟨es, q6, p7, q8⟩, q3⟩
  · rintro i hi u1 h1
    refine hyl _ u1 _ ?_
    unfold Rnd
    refine ⟨h1.rec_, rfl, ?_⟩
    obtain ⟨he, hd, ha⟩ := hes l[i] (List.getElem_mem _)
    have htk : (l.take (i + 1)).map El.abs = (l.take i).map El.abs ++ [l[i].abs] := by rw [take_snoc l i hi, List.map_append]; rfl
    generalize l[i] = e at *
    unfold elV
    repeat' (first | (simp (disch := omega) only [push_cast, seval]) | refine iX ?_ ?_ <;> intros | refine aI (by omega) ?_ | refine dq ?_)
    refine vStore_new rfl rfl (elC_one he) ?_
    have l2 := later_alloc u1 (.cells #[.int .i64 e.t, e.dv, .int .i64 e.n, e.av] 55)
    have Ba := Blk.new u1 #[.int .i64 e.t, e.dv, .int .i64 e.n, e.av] 55
    have hu1L : L < u1.heap.size := (Array.getElem?_eq_some_iff.1 h1.rec_).1
    have h2 := h1.step l2
    generalize hka : u1.heap.size = ka at *
    generalize u1.alloc (.cells #[.int .i64 e.t, e.dv, .int .i64 e.n, e.av] 55) = u2 at *
    have r1 := h2.rec_
    repeat' (first | (simp (disch := omega) only [push_cast, seval]) | refine iX ?_ ?_ <;> intros | refine aI (by omega) ?_ | refine dq ?_)
    have h3 := h2.put (hrec _ _) hLe (rec .busy .normal)
    have qa := Ba.chg (chg_putObj u2 (L := L) (ks := [L]) (by simp) (rec .busy .normal)) (by simp; omega)
    generalize u2.putObj L (rec .busy .normal) = u3 at *
    obtain ⟨g0, g1, g2, g3, g4, ov, es, g5, g6, g7, g8⟩ := h3
    have c0 : u3.cell? ⟨w.heap.size, 0, none⟩ = some ov := g5.cell 0
    have ca : cellsAt u3 ⟨ka, 0, none⟩ 4 = some [.int .i64 e.t, e.dv, .int .i64 e.n, e.av] := Blk.cellsAt (l := [.int .i64 e.t, e.dv, .int .i64 e.n, e.av]) qa
    have hsz := g3.size
    have he3 := he.later g3
    repeat' (first | (simp (disch := omega) only [push_cast, seval]) | refine iX ?_ ?_ <;> intros | refine aI (by omega) ?_ | fail)
    refine drawnR_k 4 ?_
    repeat' (first | (simp (disch := omega) only [push_cast, seval, c0, ca]) | refine iX ?_ ?_ <;> intros | refine aI (by omega) ?_ | fail)
    refine NFn.of hb112 (OneV w.heap.size e) (stb_oneV _ _ _) (fun w' hl => (own_c e w' (he3.later hl) hd ha).mono ?_) ?_
    · rintro v w'' ⟨x, y, rfl, hE, hl'⟩
      exact ⟨⟨_, rfl, rfl, hE.base (Nat.le_trans hsz hl.size)⟩, hl'⟩
    repeat' (first | (simp (disch := omega) only [push_cast, seval]) | refine iX ?_ ?_ <;> intros | refine aI (by omega) ?_ | fail)
    refine nR_build (OneR w.heap.size e) (stb_oneR _ _ _) (fun σ' w' hl hp => ?_) ?_
    · have h10 : OneV w.heap.size e (σ' 10) w' := hp.1
      obtain ⟨e', hv, hab, hE⟩ := h10
      have hv' : σ' 10 = .agg #[.int .i64 e'.t, e'.dv, .int .i64 e'.n, e'.av] := hv
      repeat' (first | (simp (disch := omega) only [push_cast, seval, hv']) | refine iX ?_ ?_ <;> intros | refine aI (by omega) ?_ | fail)
      exact ⟨later_alloc _ _, e', w'.heap.size, rfl, hab, hE.later (later_alloc _ _), Blk.new _ _ _⟩
    repeat' (first | (simp (disch := omega) only [push_cast, seval]) | refine iX ?_ ?_ <;> intros | refine aI (by omega) ?_ | fail)
    rintro w4 l4 x ⟨e', b, rfl, hab, hE, hb⟩ y _
    have k1 := heap_later g1 l4
    have k2 := heap_later g2 l4
    have k3 := g3.trans l4
    have k4 := g4.chg (Chg.of_later (ks := []) l4) (by simp)
    have k5 := g5.chg (Chg.of_later (ks := []) l4) (by simp)
    have k6 := g6.later l4
    have k8 := fun e he => (g8 e he).later l4
    have hesl : es.length = i := by
      have := congrArg List.length g7
      simp only [List.length_map, List.length_take] at this
      omega
    refine vAppend_e (B := w.heap.size) (l := es) (r := [e']) k6 (RecS.lit1 (elC_len e') hb) (by intro z hz; rw [List.mem_singleton.1 hz]; exact hE.is) (by simp; omega) k3.size ?_
    intro v' u5 ho hg _
    have v1 := grown_obj k6 hg k1 (not_cells (hrec _ _) _)
    have v2 := grown_obj k6 hg k2 (not_cells rfl _)
    have v4 : Blk u5 _ _ 33 := grown_obj k6 hg k4 (fun cs h => by simp at h)
    have v5 : Blk u5 w.heap.size _ 33 := grown_obj k6 hg k5 (fun cs h => by simp at h)
    have v3 := k3.appended k6 (Nat.le_refl _) hg
    have v8 : ∀ z ∈ es ++ [e'], EO u5 w.heap.size z := by
      intro z hz
      rcases List.mem_append.1 hz with hz | hz
      · exact (k8 z hz).grown k6 hg
      · rw [List.mem_singleton.1 hz]; exact hE.grown k6 hg
    obtain ⟨o2, c2, hv2, _⟩ := RecS.slice (OwnR.s ho)
    subst hv2
    have hfz := v5.frozen 0
    have hce : ∃ y, u5.cell? ⟨w.heap.size, 0, none⟩ = some y := ⟨_, v5.cell 0⟩
    have gc := chg_setCell (i := 0) u5 (ks := [w.heap.size]) (k := w.heap.size) (by simp) (.slice o2 (es ++ [e']).length c2)
    have z5 := v5.set 0 (.slice o2 (es ++ [e']).length c2)
    repeat' (first | (simp (disch := omega) only [push_cast, seval, hfz, hce]) | refine iX ?_ ?_ <;> intros | refine aI (by omega) ?_ | refine dq ?_)
    have z1 := heap_chg v1 gc (by simp; omega)
    have z2 := heap_chg v2 gc (by simp)
    have z3 := gc.later v3 (by simp)
    have z4 := v4.chg gc (by simp)
    have z6 := own_chg_ty ho v5 (by decide) gc
    have z8 := fun z hz => (v8 z hz).cellOut v5 gc
    generalize u5.setCell ⟨w.heap.size, 0, none⟩ (.slice o2 (es ++ [e']).length c2) = u6 at *
    have hS : CpS w u6 L (rec .busy .normal) (.slice o l.length c) l (i + 1) := ⟨by omega, z1, z2, z3, z4, _, es ++ [e'], z5, z6, by rw [List.map_append, g7, htk, List.map_singleton, hab], z8⟩
    have hP := hS.put (hrec _ _) hLe (rec .ready .normal)
    repeat' (first | (simp (disch := omega) only [push_cast, seval]) | refine iX ?_ ?_ <;> intros | refine aI (by omega) ?_ | refine dq ?_)
    first | exact ⟨z1, rfl, hP⟩ | exact ⟨rfl, hP⟩ | exact hP
end Go.Proofs.YtnofalhkapmcnaaGreat
end
section
namespace Go.Fold
open Go.Key Go.Stab Go.Proofs.YtnofalhkapmcnaaGreat
abbrev R := Int × List ByteArray × Int × List Ag
def rcmp (x y : R) : Int := ckey x.1 x.2.1 y.1 y.2.1
def rlt (x y : R) : Bool := decide (rcmp x y < 0)
theorem rlt_swo : Swo rlt := swo_key (fun r : R => r.1) (fun r => r.2.1)
abbrev Same (x y : R) : Prop := x.1 = y.1 ∧ x.2.1 = y.2.1
theorem rlt_l {x y z : R} (h : Same x y) : rlt x z = rlt y z := by unfold rlt rcmp; rw [h.1, h.2]
theorem rlt_r {x y z : R} (h : Same x y) : rlt z x = rlt z y := by unfold rlt rcmp; rw [h.1, h.2]
theorem eqv_same {x y : R} : eqv rlt x y = true ↔ Same x y := by
  have h := ckey_is x.1 x.2.1 y.1 y.2.1
  have e : eqv rlt x y = (!decide (ckey x.1 x.2.1 y.1 y.2.1 < 0) && !decide (ckey y.1 y.2.1 x.1 x.2.1 < 0)) := rfl
  rw [e]
  rcases h with ⟨h1, h2, h3⟩ | ⟨h1, h2, h3⟩ | ⟨h1, h2, h3⟩
  · rw [h1, h2]
    exact ⟨fun h => (by simp at h), fun h => absurd h h3⟩
  · rw [h1, h2]
    exact ⟨fun _ => h3, fun _ => rfl⟩
  · rw [h1, h2]
    exact ⟨fun h => (by simp at h), fun h => absurd h h3⟩
theorem cmp_zero {x y : R} : rcmp x y = 0 ↔ Same x y := by
  have h := ckey_is x.1 x.2.1 y.1 y.2.1
  unfold rcmp
  rcases h with ⟨h1, h2, h3⟩ | ⟨h1, h2, h3⟩ | ⟨h1, h2, h3⟩
  · rw [h1]
    exact ⟨fun h => (by cases h), fun h => absurd h h3⟩
  · rw [h1]
    exact ⟨fun _ => h3, fun _ => rfl⟩
  · rw [h1]
    exact ⟨fun h => (by cases h), fun h => absurd h h3⟩
def jaggs : List Ag → List Ag → Option (List Ag)
  | [], _ => some []
  | _ :: _, [] => none
  | a :: x, b :: y => if Fi (a.1 + b.1) then (jaggs x y).map (ajn a b :: ·) else none
def jn (x y : R) : Option R := if 1048576 < x.2.2.1 + y.2.2.1 then none else (jaggs x.2.2.2 y.2.2.2).map fun l => (x.1, x.2.1, x.2.2.1 + y.2.2.1, l)
theorem jn_key {x y z : R} (h : jn x y = some z) : Same x z := by
  unfold jn at h
  split at h
  · cases h
  · obtain ⟨l, _, rfl⟩ := Option.map_eq_some_iff.1 h
    exact ⟨rfl, rfl⟩
def jfold : List R → Option R
  | [] => none
  | r :: c => c.foldl (fun o s => o.bind (jn · s)) (some r)
theorem jfold_snoc {c : List R} (h : c ≠ []) (r : R) : jfold (c ++ [r]) = (jfold c).bind (jn · r) := by
  cases c with
  | nil => exact absurd rfl h
  | cons a c => simp [jfold, List.foldl_append]
theorem foldl_none (c : List R) : c.foldl (fun o s => o.bind (jn · s)) (none : Option R) = none := by
  induction c with
  | nil => rfl
  | cons a c ih => simpa using ih
theorem jfold_none {c : List R} (h : c ≠ []) (hn : jfold c = none) (d : List R) : jfold (c ++ d) = none := by
  cases c with
  | nil => exact absurd rfl h
  | cons a c =>
    simp only [jfold, List.cons_append, List.foldl_append] at hn ⊢
    rw [hn, foldl_none]
def Bad (l : List R) : Prop := ∃ x ∈ l, jfold (l.filter (eqv rlt x)) = none
structure F (l out : List R) : Prop where
  srt : out.Pairwise fun a b => rlt a b = true
  nil : ∀ x, l.filter (eqv rlt x) = [] → out.filter (eqv rlt x) = []
  one : ∀ x, l.filter (eqv rlt x) ≠ [] → ∃ z, jfold (l.filter (eqv rlt x)) = some z ∧ out.filter (eqv rlt x) = [z]
theorem eqv_refl (x : R) : eqv rlt x x = true := eqv_same.2 ⟨rfl, rfl⟩
theorem mem_ne {l : List R} {x : R} (h : x ∈ l) : l.filter (eqv rlt x) ≠ [] := by
  intro he
  have : x ∈ l.filter (eqv rlt x) := List.mem_filter.2 ⟨h, eqv_refl x⟩
  rw [he] at this; cases this
theorem F.ok {l out : List R} (h : F l out) : ¬ Bad l := by
  rintro ⟨x, hx, hn⟩
  obtain ⟨z, hz, _⟩ := h.one x (mem_ne hx)
  rw [hn] at hz; cases hz
theorem Bad.more {l : List R} (h : Bad l) (d : List R) : Bad (l ++ d) := by
  obtain ⟨x, hx, hn⟩ := h
  exact ⟨x, List.mem_append_left _ hx, by rw [List.filter_append]; exact jfold_none (mem_ne hx) hn _⟩
theorem F.start : F [] [] := ⟨List.Pairwise.nil, fun _ _ => rfl, fun _ h => absurd rfl h⟩
theorem F.join {l A B : List R} {b r : R} (h : F l (A ++ b :: B)) (hs : Same b r) : (jn b r = none → Bad (l ++ [r])) ∧ ∀ x, jn b r = some x → F (l ++ [r]) (A ++ x :: B) := by
  have key : ∀ x, eqv rlt x r = true → A.filter (eqv rlt x) = [] ∧ B.filter (eqv rlt x) = [] ∧ l.filter (eqv rlt x) ≠ [] ∧ jfold (l.filter (eqv rlt x)) = some b := by
    intro x hx
    have hxr := eqv_same.1 hx
    have hb : eqv rlt x b = true := eqv_same.2 ⟨hxr.1.trans hs.1.symm, hxr.2.trans hs.2.symm⟩
    have hne : l.filter (eqv rlt x) ≠ [] := by
      intro he
      have := h.nil x he
      rw [List.filter_append, List.filter_cons_of_pos hb] at this
      simp at this
    obtain ⟨z, hz, hf⟩ := h.one x hne
    rw [List.filter_append, List.filter_cons_of_pos hb] at hf
    have hA : A.filter (eqv rlt x) = [] := by
      cases hA : A.filter (eqv rlt x) with
      | nil => rfl
      | cons a T => rw [hA] at hf; simp at hf
    rw [hA, List.nil_append] at hf
    obtain ⟨e1, e2⟩ := List.cons.inj hf
    exact ⟨hA, e2, hne, by rw [hz, e1]⟩
  constructor
  · intro hn
    obtain ⟨_, _, hne, hj⟩ := key r (eqv_refl r)
    refine ⟨r, by simp, ?_⟩
    rw [List.filter_append, List.filter_cons_of_pos (eqv_refl r), List.filter_nil, jfold_snoc hne, hj]
    exact hn
  · intro x' hx'
    have hk := jn_key hx'
    refine ⟨?_, fun x hx => ?_, fun x hx => ?_⟩
    · have := h.srt
      rw [List.pairwise_append, List.pairwise_cons] at this ⊢
      obtain ⟨p1, ⟨p2, p3⟩, p4⟩ := this
      refine ⟨p1, ⟨fun c hc => by rw [← rlt_l hk]; exact p2 c hc, p3⟩, fun a ha c hc => ?_⟩
      rcases List.mem_cons.1 hc with rfl | hc
      · rw [← rlt_r hk]; exact p4 a ha b (by simp)
      · exact p4 a ha c (List.mem_cons_of_mem _ hc)
    · rw [List.filter_append] at hx
      obtain ⟨h1, h2⟩ := List.append_eq_nil_iff.1 hx
      have hxr : ¬ eqv rlt x r = true := fun hh => by rw [List.filter_cons_of_pos hh] at h2; cases h2
      have hxx : ¬ eqv rlt x x' = true := fun hh => hxr (eqv_same.2 ⟨(eqv_same.1 hh).1.trans (hk.1.symm.trans hs.1), (eqv_same.1 hh).2.trans (hk.2.symm.trans hs.2)⟩)
      have hxb : ¬ eqv rlt x b = true := fun hh => hxr (eqv_same.2 ⟨(eqv_same.1 hh).1.trans hs.1, (eqv_same.1 hh).2.trans hs.2⟩)
      have := h.nil x h1
      rw [List.filter_append, List.filter_cons_of_neg hxb] at this
      rw [List.filter_append, List.filter_cons_of_neg hxx]
      exact this
    · by_cases hxr : eqv rlt x r = true
      · obtain ⟨hA, hB, hne, hj⟩ := key x hxr
        have hxx : eqv rlt x x' = true := eqv_same.2 ⟨(eqv_same.1 hxr).1.trans (hs.1.symm.trans hk.1), (eqv_same.1 hxr).2.trans (hs.2.symm.trans hk.2)⟩
        refine ⟨x', ?_, ?_⟩
        · rw [List.filter_append, List.filter_cons_of_pos hxr, List.filter_nil, jfold_snoc hne, hj]
          exact hx'
        · rw [List.filter_append, List.filter_cons_of_pos hxx, hA, hB]; rfl
      · have hxx : ¬ eqv rlt x x' = true := fun hh => hxr (eqv_same.2 ⟨(eqv_same.1 hh).1.trans (hk.1.symm.trans hs.1), (eqv_same.1 hh).2.trans (hk.2.symm.trans hs.2)⟩)
        have hxb : ¬ eqv rlt x b = true := fun hh => hxr (eqv_same.2 ⟨(eqv_same.1 hh).1.trans hs.1, (eqv_same.1 hh).2.trans hs.2⟩)
        rw [List.filter_append, List.filter_cons_of_neg hxr, List.filter_nil, List.append_nil] at hx ⊢
        obtain ⟨z, hz, hf⟩ := h.one x hx
        rw [List.filter_append, List.filter_cons_of_neg hxb] at hf
        exact ⟨z, hz, by rw [List.filter_append, List.filter_cons_of_neg hxx]; exact hf⟩
theorem F.add {l A B : List R} {r : R} (h : F l (A ++ B)) (hA : ∀ a ∈ A, rlt a r = true) (hB : ∀ b ∈ B, rlt r b = true) : F (l ++ [r]) (A ++ r :: B) := by
  have no : ∀ x c, eqv rlt x r = true → (rlt c r = true ∨ rlt r c = true) → ¬ eqv rlt x c = true := by
    intro x c hx hc hh
    have h1 := eqv_same.1 hx
    have h2 := eqv_same.1 hh
    have hs : Same c r := ⟨h2.1.symm.trans h1.1, h2.2.symm.trans h1.2⟩
    rcases hc with hc | hc
    · rw [rlt_l hs, rlt_swo.irr] at hc; cases hc
    · rw [rlt_r hs, rlt_swo.irr] at hc; cases hc
  refine ⟨?_, fun x hx => ?_, fun x hx => ?_⟩
  · have := h.srt
    rw [List.pairwise_append] at this ⊢
    obtain ⟨p1, p2, p3⟩ := this
    refine ⟨p1, List.pairwise_cons.2 ⟨hB, p2⟩, fun a ha c hc => ?_⟩
    rcases List.mem_cons.1 hc with rfl | hc
    · exact hA a ha
    · exact p3 a ha c hc
  · rw [List.filter_append] at hx
    obtain ⟨h1, h2⟩ := List.append_eq_nil_iff.1 hx
    have hxr : ¬ eqv rlt x r = true := fun hh => by rw [List.filter_cons_of_pos hh] at h2; cases h2
    have := h.nil x h1
    rw [List.filter_append] at this ⊢
    rw [List.filter_cons_of_neg hxr]
    exact this
  · by_cases hxr : eqv rlt x r = true
    · have fA : A.filter (eqv rlt x) = [] := List.filter_eq_nil_iff.2 fun a ha => no x a hxr (.inl (hA a ha))
      have fB : B.filter (eqv rlt x) = [] := List.filter_eq_nil_iff.2 fun a ha => no x a hxr (.inr (hB a ha))
      have hl : l.filter (eqv rlt x) = [] := by
        apply Classical.byContradiction
        intro hne
        obtain ⟨z, _, hf⟩ := h.one x hne
        rw [List.filter_append, fA, fB] at hf
        cases hf
      refine ⟨r, ?_, ?_⟩
      · rw [List.filter_append, hl, List.filter_cons_of_pos hxr]; rfl
      · rw [List.filter_append, fA, List.filter_cons_of_pos hxr, fB]; rfl
    · rw [List.filter_append, List.filter_cons_of_neg hxr, List.filter_nil, List.append_nil] at hx ⊢
      obtain ⟨z, hz, hf⟩ := h.one x hx
      rw [List.filter_append] at hf
      exact ⟨z, hz, by rw [List.filter_append, List.filter_cons_of_neg hxr]; exact hf⟩
def Res (l : List R) : Option (List R) → Prop
  | none => Bad l
  | some out => F l out
theorem Res.one {l l' : List R} (hs : Stb rlt l l') {o o' : Option (List R)} (h : Res l o) (h' : Res l' o') : o' = o := by
  have hb : Bad l ↔ Bad l' := by
    constructor
    · rintro ⟨x, hx, hn⟩; exact ⟨x, (hs.mem rlt_swo x).2 hx, by rw [hs.2]; exact hn⟩
    · rintro ⟨x, hx, hn⟩; exact ⟨x, (hs.mem rlt_swo x).1 hx, by rw [← hs.2]; exact hn⟩
  cases o with
  | none =>
    cases o' with
    | none => rfl
    | some out' => exact absurd (hb.1 h) (F.ok h')
  | some out =>
    cases o' with
    | none => exact absurd (hb.2 h') (F.ok h)
    | some out' =>
      have h : F l out := h
      have h' : F l' out' := h'
      congr 1
      refine one_way rlt_swo (List.Pairwise.imp (fun hab => rlt_swo.asym _ _ hab) h.srt) (List.Pairwise.imp (fun hab => rlt_swo.asym _ _ hab) h'.srt) fun x => ?_
      by_cases hx : l.filter (eqv rlt x) = []
      · rw [h.nil x hx, h'.nil x (by rw [hs.2]; exact hx)]
      · obtain ⟨z, hz, hf⟩ := h.one x hx
        obtain ⟨z', hz', hf'⟩ := h'.one x (by rw [hs.2]; exact hx)
        rw [hs.2, hz] at hz'
        cases hz'
        rw [hf, hf']
end Go.Fold
end
section
namespace Go.Fold
open Go.Proofs.YtnofalhkapmcnaaGreat
theorem jaggs_snoc : ∀ (x y : List Ag) (a b : Ag), x.length = y.length → jaggs (x ++ [a]) (y ++ [b]) = (jaggs x y).bind fun l => if Fi (a.1 + b.1) then some (l ++ [ajn a b]) else none
  | [], [], a, b, _ => by
    simp only [List.nil_append, jaggs]
    split <;> simp
  | [], _ :: _, _, _, h => by simp at h
  | _ :: _, [], _, _, h => by simp at h
  | c :: x, d :: y, a, b, h => by
    have ih := jaggs_snoc x y a b (by simpa using h)
    simp only [List.cons_append, jaggs, ih]
    by_cases hc : Fi (c.1 + d.1)
    · rw [if_pos hc, if_pos hc]
      cases jaggs x y with
      | none => rfl
      | some l =>
        simp only [Option.bind_some, Option.map_some]
        by_cases hf : Fi (a.1 + b.1)
        · rw [if_pos hf, if_pos hf]; rfl
        · rw [if_neg hf, if_neg hf]; rfl
    · rw [if_neg hc, if_neg hc]; rfl
theorem jaggs_none : ∀ (x y : List Ag) (x' y' : List Ag), x.length = y.length → jaggs x y = none → jaggs (x ++ x') (y ++ y') = none
  | [], [], _, _, _, h => by simp [jaggs] at h
  | [], _ :: _, _, _, h, _ => by simp at h
  | _ :: _, [], _, _, h, _ => by simp at h
  | c :: x, d :: y, x', y', h, hn => by
    simp only [List.cons_append, jaggs] at hn ⊢
    by_cases hc : Fi (c.1 + d.1)
    · rw [if_pos hc] at hn ⊢
      have := jaggs_none x y x' y' (by simpa using h) (by simpa using hn)
      rw [this]; rfl
    · rw [if_neg hc]
theorem jaggs_step {x y : List Ag} (h : x.length = y.length) {i : Nat} (hi : i < x.length) (hj : i < y.length) {l : List Ag} (hl : jaggs (x.take i) (y.take i) = some l) :
    (Fi (x[i].1 + y[i].1) → jaggs (x.take (i + 1)) (y.take (i + 1)) = some (l ++ [ajn x[i] y[i]])) ∧ (¬ Fi (x[i].1 + y[i].1) → jaggs x y = none) := by
  have e : jaggs (x.take (i + 1)) (y.take (i + 1)) = if Fi (x[i].1 + y[i].1) then some (l ++ [ajn x[i] y[i]]) else none := by
    rw [Go.Vc.take_snoc x i hi, Go.Vc.take_snoc y i hj, jaggs_snoc _ _ _ _ (by simp; omega), hl]; rfl
  constructor
  · intro hf; rw [e, if_pos hf]
  · intro hf
    rw [if_neg hf] at e
    have := jaggs_none _ _ (x.drop (i + 1)) (y.drop (i + 1)) (by simp; omega) e
    rwa [List.take_append_drop, List.take_append_drop] at this
theorem jaggs_len : ∀ (x y l : List Ag), x.length = y.length → jaggs x y = some l → l.length = x.length
  | [], _, l, _, h => by simp [jaggs] at h; simp [h]
  | _ :: _, [], _, h, _ => by simp at h
  | c :: x, d :: y, l, hl, h => by
    simp only [jaggs] at h
    by_cases hc : Fi (c.1 + d.1)
    · rw [if_pos hc] at h
      obtain ⟨m, hm, rfl⟩ := Option.map_eq_some_iff.1 h
      simp [jaggs_len x y m (by simpa using hl) hm]
    · rw [if_neg hc] at h; cases h
theorem jaggs_rt : ∀ (x y l : List Ag), (∀ a ∈ x, ARt a) → (∀ a ∈ y, ARt a) → jaggs x y = some l → ∀ a ∈ l, ARt a
  | [], _, l, _, _, h => by simp [jaggs] at h; simp [h]
  | _ :: _, [], l, _, _, h => by simp [jaggs] at h
  | c :: x, d :: y, l, hx, hy, h => by
    simp only [jaggs] at h
    by_cases hc : Fi (c.1 + d.1)
    · rw [if_pos hc] at h
      obtain ⟨m, hm, rfl⟩ := Option.map_eq_some_iff.1 h
      intro a ha
      rcases List.mem_cons.1 ha with rfl | ha
      · exact ajn_rt (hx c (by simp)) (hy d (by simp)) hc
      · exact jaggs_rt x y m (fun a ha => hx a (by simp [ha])) (fun a ha => hy a (by simp [ha])) hm a ha
    · rw [if_neg hc] at h; cases h
end Go.Fold
namespace Go.Proofs.YtnofalhkapmcnaaGreat
open Go.Vc Go.Key Go.Stab Go.Fold
set_option maxRecDepth 100000
def JR (x y z : El) (e : Int) : Prop := (ecmp x y ≠ 0 ∧ e = 131 ∧ z.abs = (0, [], 0, [])) ∨ (ecmp x y = 0 ∧ jn x.abs y.abs = none ∧ e = 121 ∧ z.abs = (0, [], 0, [])) ∨ (ecmp x y = 0 ∧ e = 0 ∧ jn x.abs y.abs = some z.abs)
theorem jn_abs (x y : El) : jn x.abs y.abs = if 1048576 < x.n + y.n then none else (jaggs x.a y.a).map fun l => (x.t, x.d, x.n + y.n, l) := rfl
structure Rr (e : El) : Prop where
  n1 : 1 ≤ e.n
  n2 : e.n ≤ 1048576
  ag : ∀ a ∈ e.a, ARt a
  dl : e.d.length ≤ 1000
  al : e.a.length ≤ 1000
theorem JR.rr {x y z : El} {q : R} (hx : Rr x) (hy : Rr y) (hl : x.a.length = y.a.length) (h : jn x.abs y.abs = some z.abs) : Rr z ∧ z.d.length = x.d.length ∧ z.a.length = x.a.length := by
  rw [jn_abs] at h
  split at h
  · cases h
  · rename_i hn
    obtain ⟨l, hj, he⟩ := Option.map_eq_some_iff.1 h
    unfold El.abs at he
    simp only [Prod.mk.injEq] at he
    obtain ⟨e1, e2, e3, e4⟩ := he
    have := jaggs_len _ _ _ hl hj
    have n1 := hx.n1
    have n2 := hy.n1
    refine ⟨⟨by omega, by omega, by rw [← e4]; exact jaggs_rt _ _ _ hx.ag hy.ag hj, by rw [← e2]; exact hx.dl, by rw [← e4, this]; exact hx.al⟩, by rw [← e2], by rw [← e4, this]⟩
end Go.Proofs.YtnofalhkapmcnaaGreat
end
section
set_option linter.unusedSimpArgs false
namespace Go.Proofs.YtnofalhkapmcnaaGreat
open Go.Vc Go.Key Go.Cub Go.Fold
set_option maxRecDepth 100000
instance : Inhabited Ag := ⟨(0, 0, 0)⟩
def tmV (m : List ByteArray) (t : TD) (r : R) : Int := if t.f = 0 then r.2.2.1 else
  let a := r.2.2.2[(fi m t.m).getD 0]!
  if t.f = 1 then a.1 else if t.f = 2 then a.2.1 else a.2.2
def TmOk (m : List ByteArray) (t : TD) : Prop := 0 ≤ t.f ∧ t.f ≤ 3 ∧ (t.f ≠ 0 → t.m ∈ m)
def funsV : List Value := [.func (.func 130) #[] #[], .func (.func 131) #[] #[], .func (.func 132) #[] #[], .func (.func 133) #[] #[]]
theorem tells_c (w : World) : FnC Tryz.prog 107 #[] w fun r w' => r = .agg funsV.toArray ∧ Later w w' := by
  refine enter107 ?_
  unfold B107
  repeat' (first | (simp (disch := omega) only [push_cast, seval]) | refine iX ?_ ?_ <;> intros | refine aI (by omega) ?_ | refine dq ?_)
  refine vStore_new rfl rfl (by intro u hu; simp at hu; rcases hu with rfl | rfl | rfl | rfl <;> rfl) ?_
  have l1 := later_alloc w (.cells funsV.toArray 119)
  have B1 := Blk.new w funsV.toArray 119
  repeat' (first | (simp (disch := omega) only [push_cast, seval]) | refine iX ?_ ?_ <;> intros | refine aI (by omega) ?_ | refine dq ?_)
  refine resK_cells (s := 4) (by simp (disch := omega) only [push_cast, seval]) (by rw [Tryz.underlying119]; exact sz119) (Blk.cellsAt (l := funsV) B1) ?_
  repeat' (first | (simp (disch := omega) only [push_cast, seval]) | refine iX ?_ ?_ <;> intros | refine aI (by omega) ?_ | refine dq ?_)
  first | exact ⟨rfl, l1⟩ | exact l1
theorem boxR (w : World) (e : El) : Later w (w.alloc (.cells (elC e).toArray 55)) ∧ (w.alloc (.cells (elC e).toArray 55)).heap.size = w.heap.size + 1 ∧ Blk (w.alloc (.cells (elC e).toArray 55)) w.heap.size (elC e).toArray 55 :=
  ⟨later_alloc _ _, World.size_alloc w _, Blk.new w _ _⟩
theorem tells1_c (e : El) (i : Int) (w : World) : FnC Tryz.prog 130 #[.agg (elC e).toArray, .int .i64 i] w fun r w' => r = .int .i64 e.n ∧ Later w w' := by
  refine enter130 _ _ ?_
  unfold B130
  have ec : (Value.agg (elC e).toArray).cells = (elC e).toArray := rfl
  obtain ⟨l1, s1, B1⟩ := boxR w e
  repeat' (first | (simp (disch := omega) only [push_cast, seval, ec]) | refine iX ?_ ?_ <;> intros | refine aI (by omega) ?_ | refine dq ?_)
  generalize w.alloc (.cells (elC e).toArray 55) = w1 at *
  have c0 : w1.cell? ⟨w.heap.size, 2, none⟩ = some (.int .i64 e.n) := B1.cell 2
  repeat' (first | (simp (disch := omega) only [push_cast, seval, c0, addr_add_eq, Nat.zero_add]) | refine iX ?_ ?_ <;> intros | refine aI (by omega) ?_ | refine dq ?_)
  first | exact ⟨rfl, l1⟩ | exact l1
theorem tells2_c (e : El) (i : Nat) (w : World) (h : AgS w e.av e.a) (hi : i < e.a.length) : FnC Tryz.prog 131 #[.agg (elC e).toArray, .int .i64 (i : Int)] w fun r w' => r = .int .i64 (e.a[i]!).1 ∧ Later w w' := by
  refine enter131 _ _ ?_
  unfold B131
  have ec : (Value.agg (elC e).toArray).cells = (elC e).toArray := rfl
  obtain ⟨l1, s1, B1⟩ := boxR w e
  obtain ⟨o, c, hv, _⟩ := RecS.slice h
  repeat' (first | (simp (disch := omega) only [push_cast, seval, ec]) | refine iX ?_ ?_ <;> intros | refine aI (by omega) ?_ | refine dq ?_)
  generalize w.alloc (.cells (elC e).toArray 55) = w1 at *
  have c0 : w1.cell? ⟨w.heap.size, 3, none⟩ = some e.av := B1.cell 3
  have h1 := RecS.later h l1
  rw [hv] at c0 h1
  obtain ⟨a, rfl, _⟩ := RecS.at agC_len h1 hi
  have f0 := RecS.cell agC_len h1 hi (j := 0) (x := .int .i64 (e.a[i]).1) rfl
  rw [addr_add_zero] at f0
  rw [getElem!_pos e.a i hi]
  repeat' (first | (simp (disch := omega) only [push_cast, seval, c0, f0, addr_add_eq, Nat.zero_add]) | refine iX ?_ ?_ <;> intros | refine aI (by omega) ?_ | refine dq ?_)
  first | exact ⟨rfl, l1⟩ | exact l1
theorem tells3_c (e : El) (i : Nat) (w : World) (h : AgS w e.av e.a) (hi : i < e.a.length) : FnC Tryz.prog 132 #[.agg (elC e).toArray, .int .i64 (i : Int)] w fun r w' => r = .int .i64 (e.a[i]!).2.1 ∧ Later w w' := by
  refine enter132 _ _ ?_
  unfold B132
  have ec : (Value.agg (elC e).toArray).cells = (elC e).toArray := rfl
  obtain ⟨l1, s1, B1⟩ := boxR w e
  obtain ⟨o, c, hv, _⟩ := RecS.slice h
  repeat' (first | (simp (disch := omega) only [push_cast, seval, ec]) | refine iX ?_ ?_ <;> intros | refine aI (by omega) ?_ | refine dq ?_)
  generalize w.alloc (.cells (elC e).toArray 55) = w1 at *
  have c0 : w1.cell? ⟨w.heap.size, 3, none⟩ = some e.av := B1.cell 3
  have h1 := RecS.later h l1
  rw [hv] at c0 h1
  obtain ⟨a, rfl, _⟩ := RecS.at agC_len h1 hi
  have f0 := RecS.cell agC_len h1 hi (j := 1) (x := .int .i64 (e.a[i]).2.1) rfl
  rw [getElem!_pos e.a i hi]
  repeat' (first | (simp (disch := omega) only [push_cast, seval, c0, f0, addr_add_eq, Nat.zero_add]) | refine iX ?_ ?_ <;> intros | refine aI (by omega) ?_ | refine dq ?_)
  first | exact ⟨rfl, l1⟩ | exact l1
theorem tells4_c (e : El) (i : Nat) (w : World) (h : AgS w e.av e.a) (hi : i < e.a.length) : FnC Tryz.prog 133 #[.agg (elC e).toArray, .int .i64 (i : Int)] w fun r w' => r = .int .i64 (e.a[i]!).2.2 ∧ Later w w' := by
  refine enter133 _ _ ?_
  unfold B133
  have ec : (Value.agg (elC e).toArray).cells = (elC e).toArray := rfl
  obtain ⟨l1, s1, B1⟩ := boxR w e
  obtain ⟨o, c, hv, _⟩ := RecS.slice h
  repeat' (first | (simp (disch := omega) only [push_cast, seval, ec]) | refine iX ?_ ?_ <;> intros | refine aI (by omega) ?_ | refine dq ?_)
  generalize w.alloc (.cells (elC e).toArray 55) = w1 at *
  have c0 : w1.cell? ⟨w.heap.size, 3, none⟩ = some e.av := B1.cell 3
  have h1 := RecS.later h l1
  rw [hv] at c0 h1
  obtain ⟨a, rfl, _⟩ := RecS.at agC_len h1 hi
  have f0 := RecS.cell agC_len h1 hi (j := 2) (x := .int .i64 (e.a[i]).2.2) rfl
  rw [getElem!_pos e.a i hi]
  repeat' (first | (simp (disch := omega) only [push_cast, seval, c0, f0, addr_add_eq, Nat.zero_add]) | refine iX ?_ ?_ <;> intros | refine aI (by omega) ?_ | refine dq ?_)
  first | exact ⟨rfl, l1⟩ | exact l1
theorem fi_lt {l : List ByteArray} {x : ByteArray} (h : x ∈ l) : (fi l x).getD 0 < l.length := by
  cases hf : fi l x with
  | none => exact absurd rfl (fi_none.1 hf x h)
  | some k => exact (fi_some hf).1
theorem term_tells (m : List ByteArray) (t : TD) (e : El) (w : World) (ht : TmOk m t) (hE : EIs w e) (hl : e.a.length = m.length) : ∃ (f : FuncId), funsV[t.f.toNat]? = some (.func (.func f) #[] #[]) ∧ HasBody Tryz.prog f ∧ ∀ w', Later w w' → FnC Tryz.prog f #[.agg (elC e).toArray, .int .i64 ((fi m t.m).getD 0 : Nat)] w' fun r w'' => r = .int .i64 (tmV m t e.abs) ∧ Later w' w'' := by
  obtain ⟨h1, h2, h3⟩ := ht
  unfold tmV
  by_cases k0 : t.f = 0
  · refine ⟨130, by rw [k0]; rfl, hb130, fun w' hl => ?_⟩
    rw [if_pos k0]
    exact tells1_c e _ w'
  have hi := fi_lt (h3 k0)
  rw [← hl] at hi
  rw [if_neg k0]
  by_cases k1 : t.f = 1
  · refine ⟨131, by rw [k1]; rfl, hb131, fun w' hl => ?_⟩
    simp only [if_pos k1]
    exact tells2_c e _ w' (hE.later hl).2 hi
  by_cases k2 : t.f = 2
  · refine ⟨132, by rw [k2]; rfl, hb132, fun w' hl => ?_⟩
    simp only [if_neg k1, if_pos k2]
    exact tells3_c e _ w' (hE.later hl).2 hi
  · have k3 : t.f = 3 := by omega
    refine ⟨133, by rw [k3]; rfl, hb133, fun w' hl => ?_⟩
    simp only [if_neg k1, if_neg k2]
    exact tells4_c e _ w' (hE.later hl).2 hi
theorem gterm_c (dv mv : Value) (d m : List ByteArray) (t : TD) (e : El) (w : World) (hS : ScIs w dv mv d m) (ht : TmOk m t) (hE : EIs w e) (hl : e.a.length = m.length) : FnC Tryz.prog 57 #[scV dv mv, .agg (tdC t).toArray, .agg (elC e).toArray] w fun r w' => r = .int .i64 (tmV m t e.abs) ∧ Later w w' := by
  have esc : scV dv mv = .agg #[dv, mv] := rfl
  rw [esc]
  refine enter57 _ _ _ ?_
  unfold B57
  have eca : (Value.agg #[dv, mv]).cells = #[dv, mv] := rfl
  have ecb : (Value.agg (tdC t).toArray).cells = (tdC t).toArray := rfl
  have ecc : (Value.agg (elC e).toArray).cells = (elC e).toArray := rfl
  obtain ⟨l1, s1, F1⟩ := box2 w dv mv 24
  repeat' (first | (simp (disch := omega) only [push_cast, seval, eca, s1]) | refine iX ?_ ?_ <;> intros | refine aI (by omega) ?_ | fail)
  generalize w.alloc (.cells #[dv, mv] 24) = w1 at *
  have l2 := later_alloc w1 (.cells (tdC t).toArray 58)
  have B2 := Blk.new w1 (tdC t).toArray 58
  have s2 : (w1.alloc (.cells (tdC t).toArray 58)).heap.size = w1.heap.size + 1 := World.size_alloc w1 _
  rw [s1] at B2 s2
  repeat' (first | (simp (disch := omega) only [push_cast, seval, ecb, s1, s2]) | refine iX ?_ ?_ <;> intros | refine aI (by omega) ?_ | fail)
  generalize w1.alloc (.cells (tdC t).toArray 58) = w2 at *
  obtain ⟨l3, s3, B3⟩ := boxR w2 e
  rw [s2] at B3 s3
  repeat' (first | (simp (disch := omega) only [push_cast, seval, ecc, s2, s3]) | refine iX ?_ ?_ <;> intros | refine aI (by omega) ?_ | fail)
  generalize w2.alloc (.cells (elC e).toArray 55) = w3 at *
  have l23 := l2.trans l3
  have l03 := l1.trans l23
  generalize hkf : w.heap.size = kf at *
  have a0 := (F1 w3 l23).2.2
  have B23 := B2.chg (Chg.of_later (ks := []) l3) (by simp)
  have b0 : w3.cell? ⟨kf + 1, 0, none⟩ = some (.int .i64 t.f) := B23.cell 0
  have b1 : w3.cell? ⟨kf + 1, 1, none⟩ = some (.string t.m) := B23.cell 1
  repeat' (first | (simp (disch := omega) only [push_cast, seval, a0, b1, addr_add_eq, Nat.zero_add]) | refine iX ?_ ?_ <;> intros | refine aI (by omega) ?_ | refine dq ?_)
  refine (met_c dv mv d m t.m w3 (hS.later l03)).mono ?_
  rintro _ w4 ⟨rfl, l4⟩
  have l04 := l03.trans l4
  have b04 : w4.cell? ⟨kf + 1, 0, none⟩ = some (.int .i64 t.f) := l4.cell b0
  have B34 := B3.chg (Chg.of_later (ks := []) l4) (by simp)
  have c04 : cellsAt w4 ⟨kf + 1 + 1, 0, none⟩ 4 = some (elC e) := Blk.cellsAt (l := elC e) B34
  unfold fiT
  obtain ⟨f, hf, hb, hfc⟩ := term_tells m t e w4 ht (hE.later l04) hl
  have hft : funsV.toArray[t.f.toNat]? = some (.func (.func f) #[] #[]) := by rw [List.getElem?_toArray]; exact hf
  obtain ⟨h1, h2, h3⟩ := ht
  repeat' (first | (simp (disch := omega) only [push_cast, seval]) | refine iX ?_ ?_ <;> intros | refine aI (by omega) ?_ | refine dq ?_)
  refine QFn.of hb107 (v := .agg funsV.toArray) (fun w' hl => tells_c w') ?_
  repeat' (first | (simp (disch := omega) only [push_cast, seval, b04, c04, hf, addr_add_eq, Nat.zero_add]) | refine iX ?_ ?_ <;> intros | refine aI (by omega) ?_ | refine dq ?_)
  refine QFn.of hb (v := .int .i64 (tmV m t e.abs)) (fun w' hl => hfc w' hl) ?_
  repeat' (first | (simp (disch := omega) only [push_cast, seval]) | refine iX ?_ ?_ <;> intros | refine aI (by omega) ?_ | refine dq ?_)
  intro w5 l5
  repeat' (first | (simp (disch := omega) only [push_cast, seval]) | refine iX ?_ ?_ <;> intros | refine aI (by omega) ?_ | refine dq ?_)
  first | exact ⟨rfl, (l04.trans l5)⟩ | exact (l04.trans l5)
def cmI (a b : Int) : Int := if a < b then -1 else if b < a then 1 else 0
def stQ (m : List ByteArray) (hl : List HD) (r : R) : Bool := hl.all fun h => decide (cmI (tmV m h.t r) h.value = h.sign)
theorem gstays1_c (dv mv : Value) (d m : List ByteArray) (h : HD) (e : El) (ks kr : Nat) (w : World) (hS : ScIs w dv mv d m) (ht : TmOk m h.t) (hE : EIs w e) (hl : e.a.length = m.length) (fs : cellsAt w ⟨ks, 0, none⟩ 2 = some [dv, mv]) (fr : cellsAt w ⟨kr, 0, none⟩ 4 = some (elC e)) :
    FnC Tryz.prog 105 #[.agg (hdC h).toArray, .pointer (some ⟨ks, 0, none⟩), .pointer (some ⟨kr, 0, none⟩)] w fun r w' => r = .bool (!decide (cmI (tmV m h.t e.abs) h.value = h.sign)) ∧ Later w w' := by
  refine enter105 _ _ _ ?_
  unfold B105
  have eca : (Value.agg (hdC h).toArray).cells = (hdC h).toArray := rfl
  have l1 := later_alloc w (.cells (hdC h).toArray 103)
  have B1 := Blk.new w (hdC h).toArray 103
  repeat' (first | (simp (disch := omega) only [push_cast, seval, eca]) | refine iX ?_ ?_ <;> intros | refine aI (by omega) ?_ | fail)
  generalize w.alloc (.cells (hdC h).toArray 103) = w1 at *
  generalize w.heap.size = kf at *
  have a0 : cellsAt w1 ⟨kf, 0, none⟩ 2 = some (tdC h.t) := by
    refine cellsAt_of 2 _ _ rfl fun i x hx => ?_
    rw [addr_add_eq]
    match i, hx with
    | 0, hx => cases hx; exact B1.cell 0
    | 1, hx => cases hx; exact B1.cell 1
    | n + 2, hx => exact absurd hx (by simp [tdC])
  have a2 : w1.cell? ⟨kf, 2, none⟩ = some (.int .i64 h.sign) := B1.cell 2
  have a3 : w1.cell? ⟨kf, 3, none⟩ = some (.int .i64 h.value) := B1.cell 3
  have f1 := cellsAt_later l1 _ fs
  have f2 := cellsAt_later l1 _ fr
  repeat' (first | (simp (disch := omega) only [push_cast, seval, a0, f1, f2, addr_add_eq, Nat.zero_add]) | refine iX ?_ ?_ <;> intros | refine aI (by omega) ?_ | refine dq ?_)
  refine QFn.of hb57 (v := .int .i64 (tmV m h.t e.abs)) (fun w' hl' => gterm_c dv mv d m h.t e w' (hS.later (l1.trans hl')) ht (hE.later (l1.trans hl')) hl) ?_
  repeat' (first | (simp (disch := omega) only [push_cast, seval, a2, a3, addr_add_eq, Nat.zero_add]) | refine iX ?_ ?_ <;> intros | refine aI (by omega) ?_ | refine dq ?_)
  refine QFn.of hb60 (v := .int .i64 (cmI (tmV m h.t e.abs) h.value)) (fun w' hl => (cmpI_c (tmV m h.t e.abs) h.value w').mono ?_) ?_
  · rintro _ w5 ⟨rfl, h5⟩; obtain rfl := h5.symm
    exact ⟨rfl, Later.refl _⟩
  repeat' (first | (simp (disch := omega) only [push_cast, seval, a2, a3, addr_add_eq, Nat.zero_add]) | refine iX ?_ ?_ <;> intros | refine aI (by omega) ?_ | refine dq ?_)
  intro w5 l5
  repeat' (first | (simp (disch := omega) only [push_cast, seval]) | refine iX ?_ ?_ <;> intros | refine aI (by omega) ?_ | refine dq ?_)
  first | exact ⟨rfl, (l1.trans l5)⟩ | exact (l1.trans l5)
theorem gstays_c (dv mv : Value) (d m : List ByteArray) (q : QD) (e : El) (w : World) (hS : ScIs w dv mv d m) (hq : q.Ok w) (ht : ∀ h ∈ q.hl, TmOk m h.t) (hE : EIs w e) (hl : e.a.length = m.length) : FnC Tryz.prog 56 #[scV dv mv, .agg (qdC q).toArray, .agg (elC e).toArray] w fun r w' => r = .bool (stQ m q.hl e.abs) ∧ Later w w' := by
  have esc : scV dv mv = .agg #[dv, mv] := rfl
  rw [esc]
  obtain ⟨ho, hc, hhv, hh1, hh2⟩ := RecS.slice hq.hv
  refine enter56 _ _ _ ?_
  unfold B56
  have eca : (Value.agg #[dv, mv]).cells = #[dv, mv] := rfl
  have ecb : (Value.agg (qdC q).toArray).cells = (qdC q).toArray := rfl
  have ecc : (Value.agg (elC e).toArray).cells = (elC e).toArray := rfl
  obtain ⟨l1, s1, F1⟩ := box2 w dv mv 24
  repeat' (first | (simp (disch := omega) only [push_cast, seval, eca, s1]) | refine iX ?_ ?_ <;> intros | refine aI (by omega) ?_ | fail)
  generalize w.alloc (.cells #[dv, mv] 24) = w1 at *
  have l2 := later_alloc w1 (.cells (qdC q).toArray 32)
  have B2 := Blk.new w1 (qdC q).toArray 32
  have s2 : (w1.alloc (.cells (qdC q).toArray 32)).heap.size = w1.heap.size + 1 := World.size_alloc w1 _
  rw [s1] at B2 s2
  repeat' (first | (simp (disch := omega) only [push_cast, seval, ecb, s1, s2]) | refine iX ?_ ?_ <;> intros | refine aI (by omega) ?_ | fail)
  generalize w1.alloc (.cells (qdC q).toArray 32) = w2 at *
  obtain ⟨l3, s3, B3⟩ := boxR w2 e
  rw [s2] at B3 s3
  repeat' (first | (simp (disch := omega) only [push_cast, seval, ecc, s2, s3]) | refine iX ?_ ?_ <;> intros | refine aI (by omega) ?_ | fail)
  generalize w2.alloc (.cells (elC e).toArray 55) = w3 at *
  have l23 := l2.trans l3
  have l03 := l1.trans l23
  generalize hkf : w.heap.size = kf at *
  obtain ⟨_, _, _, _, _, _, _, _, _, a9, _⟩ := qdAt (qdLater B2 l3)
  rw [hhv] at a9
  have hh := hq.hv.later l03
  rw [hhv] at hh
  repeat' (first | (simp (disch := omega) only [push_cast, seval, a9, addr_add_eq, Nat.zero_add]) | refine iX ?_ ?_ <;> intros | refine aI (by omega) ?_ | refine dq ?_)
  refine (hcontainsF_c _ q.hl 105 #[.pointer (some ⟨kf, 0, none⟩), .pointer (some ⟨kf + 1 + 1, 0, none⟩)] (fun h => !decide (cmI (tmV m h.t e.abs) h.value = h.sign)) w3 hh (fun h hm w' hl' => ?_)).mono ?_
  · have B34 := B3.chg (Chg.of_later (ks := []) hl') (by simp)
    exact gstays1_c dv mv d m h e kf (kf + 1 + 1) w' (hS.later (l03.trans hl')) (ht h hm) (hE.later (l03.trans hl')) hl (F1 w' (l23.trans hl')).2.2 (Blk.cellsAt (l := elC e) B34)
  rintro _ w4 ⟨rfl, l4⟩
  have ea : (q.hl.any fun h => !decide (cmI (tmV m h.t e.abs) h.value = h.sign)) = !stQ m q.hl e.abs := by
    unfold stQ
    generalize q.hl = l
    induction l with
    | nil => rfl
    | cons a l ih => simp [ih]
  rw [ea]
  repeat' (first | (simp (disch := omega) only [push_cast, seval]) | refine iX ?_ ?_ <;> intros | refine aI (by omega) ?_ | refine dq ?_)
  first | exact ⟨(by simp), (l03.trans l4)⟩ | exact (l03.trans l4)
end Go.Proofs.YtnofalhkapmcnaaGreat
end
section
namespace Go.Vc
end Go.Vc
end
section
namespace Go.Bkt
def flr (t g : Int) : Int := t - t % g
theorem tm (t g : Int) (hg : 0 < g) : -g < t.tmod g ∧ t.tmod g < g ∧ t % g = (if t.tmod g < 0 then t.tmod g + g else t.tmod g) ∧ t.tdiv g * g = t - t.tmod g := by
  have h1 := Int.tmod_lt_of_pos t hg
  have h2 := Int.lt_tmod_of_pos t hg
  have h3 := Int.tdiv_mul_add_tmod t g
  have h4 : t % g = (t.tmod g) % g := by
    conv => lhs; rw [← h3]
    rw [Int.add_comm, Int.add_mul_emod_self_right]
  refine ⟨h2, h1, ?_, by omega⟩
  rw [h4]
  split
  · rename_i h
    have e : t.tmod g % g = (t.tmod g + g) % g := by rw [Int.add_emod_right]
    rw [e]; exact Int.emod_eq_of_lt (by omega) (by omega)
  · exact Int.emod_eq_of_lt (by omega) h1
theorem tmod_pos (t g : Int) (h : 0 ≤ t) : t.tmod g = t % g := Int.tmod_eq_emod_of_nonneg h
theorem tmod_emod (t g : Int) : t.tmod g % g = t % g := by
  have h3 := Int.tdiv_mul_add_tmod t g
  conv => rhs; rw [← h3]
  rw [Int.add_comm, Int.add_mul_emod_self_right]
theorem em (t g : Int) (hg : 0 < g) : 0 ≤ t % g ∧ t % g < g := ⟨Int.emod_nonneg _ (by omega), Int.emod_lt_of_pos _ hg⟩
theorem flr_le {t g : Int} (hg : 0 < g) : flr t g ≤ t ∧ t < flr t g + g := by
  have := em t g hg
  unfold flr; omega
def nxt (at_ to_ g : Int) : Int := min (flr at_ g + g) to_
end Go.Bkt
end
section
set_option linter.unusedSimpArgs false
namespace Go.Proofs.YtnofalhkapmcnaaGreat
set_option maxRecDepth 100000
open Go.Vc Go.Bkt
abbrev Rt (g : Int) : Prop := 1 ≤ g ∧ g ≤ 1048576
abbrev Ft (t : Int) : Prop := -1099511627776 ≤ t ∧ t ≤ 1099511627776
abbrev I6 (t : Int) : Prop := -9223372036854775808 ≤ t ∧ t ≤ 9223372036854775807
theorem bright_c (g : Int) (w : World) (h : I6 g) : FnC Tryz.prog 93 #[.int .i64 g] w fun v w' => v = .bool (decide (Rt g)) ∧ w' = w := by
  refine enter93 _ ?_
  unfold B93
  by_cases h1 : 1 ≤ g <;> by_cases h2 : g ≤ 1048576
  all_goals
    repeat' (first | (simp (disch := omega) only [push_cast, seval]) | refine iX ?_ ?_ <;> intros | refine aI (by omega) ?_ | refine dq ?_)
    all_goals simp [h1, h2]
theorem bfits_c (t : Int) (w : World) (h : I6 t) : FnC Tryz.prog 101 #[.int .i64 t] w fun v w' => v = .bool (decide (Ft t)) ∧ w' = w := by
  refine enter101 _ ?_
  unfold B101
  by_cases h1 : -1099511627776 ≤ t <;> by_cases h2 : t ≤ 1099511627776
  all_goals
    repeat' (first | (simp (disch := omega) only [push_cast, seval]) | refine iX ?_ ?_ <;> intros | refine aI (by omega) ?_ | refine dq ?_)
    all_goals simp [h1, h2]
theorem rest_c (t g : Int) (w : World) (ht : Ft t) (hg : Rt g) : FnC Tryz.prog 102 #[.int .i64 t, .int .i64 g] w fun v w' => v = .int .i64 (t % g) ∧ w' = w := by
  obtain ⟨h1, h2, h3, _⟩ := tm t g (by omega)
  have h4 : (t.tmod g + g).tmod g = t % g := by
    obtain ⟨h5, h6, h7, _⟩ := tm (t.tmod g + g) g (by omega)
    have h8 := tmod_pos (t.tmod g + g) g (by omega)
    have h9 : (t.tmod g + g) % g = t % g := by
      rw [Int.add_emod_right]
      exact tmod_emod t g
    rw [h8, h9]
  refine enter102 _ _ ?_
  unfold B102
  generalize hm : t.tmod g = m at *
  repeat' (first | (simp (disch := omega) only [push_cast, seval, hm, h4]) | refine iX ?_ ?_ <;> intros | refine aI (by omega) ?_ | refine dq ?_)
  all_goals omega
def flrR (t g : Int) : Int × Int := if Rt g ∧ Ft t then (flr t g, 0) else (0, 111)
def tupF (p : Int × Int) : Value := .tuple #[.int .i64 p.1, .int .i64 p.2]
theorem bfloor_c (t g : Int) (w : World) (ht : I6 t) (hg : I6 g) : FnC Tryz.prog 54 #[.int .i64 t, .int .i64 g] w fun v w' => v = tupF (flrR t g) ∧ w' = w := by
  refine enter54 _ _ ?_
  unfold B54 tupF flrR
  repeat' (first | (simp (disch := omega) only [push_cast, seval]) | refine iX ?_ ?_ <;> intros | refine aI (by omega) ?_ | refine dq ?_)
  refine (bright_c g w hg).mono ?_
  rintro _ w0 ⟨rfl, hw⟩
  obtain rfl := hw.symm
  by_cases h0 : Rt g
  · repeat' (first | (simp (disch := omega) only [push_cast, seval, h0, decide_true, decide_false]) | refine iX ?_ ?_ <;> intros | refine aI (by omega) ?_ | refine dq ?_)
    refine (bfits_c t w ht).mono ?_
    rintro _ w0 ⟨rfl, hw⟩
    obtain rfl := hw.symm
    by_cases h1 : Ft t
    · rw [if_pos ⟨h0, h1⟩]
      have he := em t g (by omega)
      repeat' (first | (simp (disch := omega) only [push_cast, seval, h1, decide_true, decide_false]) | refine iX ?_ ?_ <;> intros | refine aI (by omega) ?_ | refine dq ?_)
      refine (rest_c t g w h1 h0).mono ?_
      rintro _ w0 ⟨rfl, hw⟩
      obtain rfl := hw.symm
      unfold flr
      generalize t % g = m at *
      repeat' (first | (simp (disch := omega) only [push_cast, seval]) | refine iX ?_ ?_ <;> intros | refine aI (by omega) ?_ | refine dq ?_)
    · rw [if_neg (fun h => h1 h.2)]
      repeat' (first | (simp (disch := omega) only [push_cast, seval, h1, decide_true, decide_false]) | refine iX ?_ ?_ <;> intros | refine aI (by omega) ?_ | refine dq ?_)
  · rw [if_neg (fun h => h0 h.1)]
    repeat' (first | (simp (disch := omega) only [push_cast, seval, h0, decide_true, decide_false]) | refine iX ?_ ?_ <;> intros | refine aI (by omega) ?_ | refine dq ?_)
end Go.Proofs.YtnofalhkapmcnaaGreat
end
section
set_option linter.unusedSimpArgs false
namespace Go.Proofs.YtnofalhkapmcnaaGreat
open Go.Vc Go.Key Go.Bkt
set_option maxRecDepth 100000
def bktN (q : QD) (t : Int) : Int := if q.ev = 0 then q.fr else (flrR t q.ev).1
theorem tbucket_c (q : QD) (t : Int) (w : World) (hq : q.Ok w) (ht : I6 t) : FnC Tryz.prog 21 #[.agg (qdC q).toArray, .int .i64 t] w fun v w' => v = .int .i64 (bktN q t) ∧ Later w w' := by
  refine enter21 _ _ ?_
  unfold B21
  have eca : (Value.agg (qdC q).toArray).cells = (qdC q).toArray := rfl
  have l1 := later_alloc w (.cells (qdC q).toArray 32)
  have B1 := Blk.new w (qdC q).toArray 32
  repeat' (first | (simp (disch := omega) only [push_cast, seval, eca]) | refine iX ?_ ?_ <;> intros | refine aI (by omega) ?_ | refine dq ?_)
  generalize w.alloc (.cells (qdC q).toArray 32) = w1 at *
  generalize w.heap.size = kf at *
  obtain ⟨_, a1, _, a3, _⟩ := qdAt B1
  unfold bktN
  by_cases hz : q.ev = 0
  · have dz : decide (q.ev = 0) = true := decide_eq_true hz
    rw [if_pos hz]
    repeat' (first | (simp (disch := omega) only [push_cast, seval, a1, a3, dz, addr_add_eq, Nat.zero_add]) | refine iX ?_ ?_ <;> intros | refine aI (by omega) ?_ | refine dq ?_)
    first | exact ⟨rfl, l1⟩ | exact l1
  · have dz : decide (q.ev = 0) = false := decide_eq_false hz
    rw [if_neg hz]
    repeat' (first | (simp (disch := omega) only [push_cast, seval, a1, a3, dz, addr_add_eq, Nat.zero_add]) | refine iX ?_ ?_ <;> intros | refine aI (by omega) ?_ | refine dq ?_)
    refine (bfloor_c t q.ev w1 ht hq.ev).mono ?_
    rintro _ w2 ⟨rfl, h2⟩; obtain rfl := h2.symm
    unfold tupF
    repeat' (first | (simp (disch := omega) only [push_cast, seval]) | refine iX ?_ ?_ <;> intros | refine aI (by omega) ?_ | refine dq ?_)
    first | exact ⟨rfl, l1⟩ | exact l1
end Go.Proofs.YtnofalhkapmcnaaGreat
end
section
set_option linter.unusedSimpArgs false
namespace Go.Vc
theorem nR_bld {P : Program} {t : TypeId} {ps : Array (Nat × Operand)} {ty : TypeId} {rs : List Nat} {Ns : NS} {σ : Env} {w : World} {Kv : Value → Prop} {Kn : (Value → World → Prop) → Prop} (V' : Value → World → Prop) (hV' : Stb w V')
    (h : ∀ σ' w', Later w w' → psis Ns σ w' σ' rs → vBuild P t (ps.map fun (i, x) => (i, ev σ' x)) (fun v w'' => Later w' w'' ∧ V' v w'') w') (hk : Kn V') : nR P (.build t ps) ty rs Ns σ w Kv Kn :=
  .inr ⟨V', hV', fun σ' w' hl hp => nUp_val (h σ' w' hl hp), hk⟩
def PtV (w0 : World) (e : TypeId) (cs : Array Value) (v : Value) (w : World) : Prop := ∃ b, v = .pointer (some ⟨b, 0, none⟩) ∧ w0.heap.size ≤ b ∧ Blk w b cs e
theorem stb_pt (w0 w1 : World) (e : TypeId) (cs : Array Value) : Stb w1 (PtV w0 e cs) := by
  rintro v w w' _ hl ⟨b, h1, h2, h3⟩
  exact ⟨b, h1, h2, h3.chg (Chg.of_later (ks := []) hl) (by simp)⟩
end Go.Vc
namespace Go.Proofs.YtnofalhkapmcnaaGreat
open Go.Vc Go.Key Go.Stab Go.Fold
set_option maxRecDepth 100000
abbrev z0 : El := ⟨0, [], 0, [], .slice none 0 0, .slice none 0 0⟩
theorem EO.zero (w : World) (B : Nat) : EO w B z0 := ⟨own_nil w _ _ 1, OwnR.nil w _ _⟩
def RowB (B : Nat) (t n : Int) (d : List ByteArray) (v : Value) (w : World) : Prop := ∃ u, v = .agg #[.int .i64 t, u, .int .i64 n, .slice none 0 0] ∧ OwnS w B u d
theorem stb_rowB (w0 : World) (B : Nat) (t n : Int) (d : List ByteArray) : Stb w0 (RowB B t n d) := by
  rintro v w w' _ hl ⟨u, h1, h2⟩
  exact ⟨u, h1, own_later h2 hl⟩
theorem ownS_grown {w w' : World} {B B' : Nat} {u v : Value} {d : List ByteArray} {es : List Ag} (h : OwnS w B u d) (hv : OwnA w B' v es) (g : w.grownBy w' v.ownBlock) : OwnS w' B u d := by
  have gc := Chg.of_grown g
  obtain ⟨o, c, rfl, _⟩ := RecS.slice (OwnR.s hv)
  cases o with
  | none => exact own_later h ⟨gc.os, gc.tape, gc.output, gc.size, fun k hk => gc.block k hk (by simp [Value.ownBlock])⟩
  | some a =>
    obtain ⟨k, rfl, _, _, ⟨cs, hb⟩, _⟩ := own_writes hv
    exact own_chg_ty h hb (by decide) gc
structure JS (w w' : World) (b : Nat) (x y : El) (u : Value) (i : Nat) : Prop where
  le : i ≤ x.a.length
  later : Later w w'
  bx : Blk w' w.heap.size (elC x).toArray 55
  by_ : Blk w' (w.heap.size + 1) (elC y).toArray 55
  bz : Blk w' (w.heap.size + 2) #[.int .i64 0, .slice none 0 0, .int .i64 0, .slice none 0 0] 55
  cur : ∃ lst av, Blk w' b (elC ⟨x.t, x.d, x.n + y.n, lst, u, av⟩).toArray 55 ∧ EO w' w.heap.size ⟨x.t, x.d, x.n + y.n, lst, u, av⟩ ∧ jaggs (x.a.take i) (y.a.take i) = some lst
theorem JS.step {w w1 w2 : World} {b i : Nat} {x y : El} {u : Value} (h : JS w w1 b x y u i) (hl : Later w1 w2) : JS w w2 b x y u i := by
  obtain ⟨h0, h1, h2, h3, h4, lst, av, h5, h6, h7⟩ := h
  have c := Chg.of_later (ks := []) hl
  exact ⟨h0, h1.trans hl, h2.chg c (by simp), h3.chg c (by simp), h4.chg c (by simp), lst, av, h5.chg c (by simp), h6.later hl, h7⟩
set_option maxHeartbeats 1000000 in
theorem rjoin_c (x y : El) (w : World) (hx : EIs w x) (hy : EIs w y) (rx : Rr x) (ry : Rr y) (hl : x.a.length = y.a.length) :
    FnC Tryz.prog 71 #[elV x, elV y] w fun r w' => ∃ z e, r = .tuple #[elV z, .int .i64 e] ∧ JR x y z e ∧ EO w' w.heap.size z ∧ Later w w' := by
  obtain ⟨n1, n2, ra, rd, rl⟩ := rx
  obtain ⟨m1, m2, sa, sd, sl⟩ := ry
  unfold elV
  refine enter71 _ _ ?_
  unfold B71
  have eca : (Value.agg #[.int .i64 x.t, x.dv, .int .i64 x.n, x.av]).cells = #[.int .i64 x.t, x.dv, .int .i64 x.n, x.av] := rfl
  have ecb : (Value.agg #[.int .i64 y.t, y.dv, .int .i64 y.n, y.av]).cells = #[.int .i64 y.t, y.dv, .int .i64 y.n, y.av] := rfl
  have s1 : (w.alloc (.cells #[.int .i64 x.t, x.dv, .int .i64 x.n, x.av] 55)).heap.size = w.heap.size + 1 := World.size_alloc w _
  obtain ⟨l2, F, hs⟩ := boxes w x y hx hy
  repeat' (first | (simp (disch := omega) only [push_cast, seval, eca, ecb, s1, hs]) | refine iX ?_ ?_ <;> intros | refine aI (by omega) ?_ | fail)
  generalize ((w.alloc (.cells #[.int .i64 x.t, x.dv, .int .i64 x.n, x.av] 55)).alloc (.cells #[.int .i64 y.t, y.dv, .int .i64 y.n, y.av] 55)) = w2 at *
  have l3 := later_alloc w2 (.cells #[.int .i64 0, .slice none 0 0, .int .i64 0, .slice none 0 0] 55)
  have B3 := Blk.new w2 #[.int .i64 0, .slice none 0 0, .int .i64 0, .slice none 0 0] 55
  rw [hs] at B3
  generalize w2.alloc (.cells #[.int .i64 0, .slice none 0 0, .int .i64 0, .slice none 0 0] 55) = w3 at *
  have G := fun w' (hl : Later w3 w') => F w' (l3.trans hl)
  have l03 := l2.trans l3
  clear F eca ecb s1
  obtain ⟨hx3, hy3, _, _, a0, a1, a2, a3, a4, b0, b1, b2, b3, b4⟩ := G w3 (Later.refl _)
  obtain ⟨ox, cx, hax, gx1, gx2⟩ := RecS.slice hx.2
  obtain ⟨oy, cy, hay, gy1, gy2⟩ := RecS.slice hy.2
  have hbig : w.heap.size + 2 < w3.heap.size := B3.lt
  repeat' (first | (simp (disch := omega) only [push_cast, seval, a4, b4]) | refine iX ?_ ?_ <;> intros | refine aI (by omega) ?_ | refine dq ?_)
  refine (rcompare_c x y w3 hx3 hy3).mono ?_
  rintro _ w4 ⟨rfl, l4⟩
  obtain ⟨hx4, hy4, _, _, a0, a1, a2, a3, a4, b0, b1, b2, b3, b4⟩ := G w4 l4
  rw [hax] at a3
  rw [hay] at b3
  by_cases hc : ecmp x y = 0
  case neg =>
    have hj : JR x y z0 131 := .inl ⟨hc, rfl, rfl⟩
    repeat' (first | (simp (disch := omega) only [push_cast, seval, a2, a3, b2, b3, addr_add_eq, Nat.zero_add]) | refine iX ?_ ?_ <;> intros | refine aI (by omega) ?_ | refine dq ?_)
    refine vStore_blk (l := [.int .i64 0, .slice none 0 0, .int .i64 0, .slice none 0 0]) (xs := elC z0) (B3.chg (Chg.of_later (ks := []) (l4)) (by simp)) rfl rfl (elC_one (EO.zero w4 0).is) ?_
    intro w9 B9 c9
    repeat' (first | (simp (disch := omega) only [push_cast, seval]) | refine iX ?_ ?_ <;> intros | refine aI (by omega) ?_ | refine dq ?_)
    refine resK_cells (s := 4) (by simp (disch := omega) only [push_cast, seval]) (by rw [Tryz.underlying55]; exact sz55) (Blk.cellsAt (l := elC z0) B9) ?_
    repeat' (first | (simp (disch := omega) only [push_cast, seval]) | refine iX ?_ ?_ <;> intros | refine aI (by omega) ?_ | refine dq ?_)
    exact ⟨z0, 131, rfl, hj, EO.zero _ _, Chg.later (l03.trans (l4)) c9 (by intro j hj; rw [List.mem_singleton.1 hj]; omega)⟩
  rw [hc]
  by_cases hn : 1048576 < x.n + y.n
  · have hj : JR x y z0 121 := .inr (.inl ⟨hc, by rw [jn_abs, if_pos hn], rfl, rfl⟩)
    repeat' (first | (simp (disch := omega) only [push_cast, seval, a2, a3, b2, b3, addr_add_eq, Nat.zero_add]) | refine iX ?_ ?_ <;> intros | refine aI (by omega) ?_ | refine dq ?_)
    refine vStore_blk (l := [.int .i64 0, .slice none 0 0, .int .i64 0, .slice none 0 0]) (xs := elC z0) (B3.chg (Chg.of_later (ks := []) (l4)) (by simp)) rfl rfl (elC_one (EO.zero w4 0).is) ?_
    intro w9 B9 c9
    repeat' (first | (simp (disch := omega) only [push_cast, seval]) | refine iX ?_ ?_ <;> intros | refine aI (by omega) ?_ | refine dq ?_)
    refine resK_cells (s := 4) (by simp (disch := omega) only [push_cast, seval]) (by rw [Tryz.underlying55]; exact sz55) (Blk.cellsAt (l := elC z0) B9) ?_
    repeat' (first | (simp (disch := omega) only [push_cast, seval]) | refine iX ?_ ?_ <;> intros | refine aI (by omega) ?_ | refine dq ?_)
    exact ⟨z0, 121, rfl, hj, EO.zero _ _, Chg.later (l03.trans (l4)) c9 (by intro j hj; rw [List.mem_singleton.1 hj]; omega)⟩
  repeat' (first | (simp (disch := omega) only [push_cast, seval, a2, a3, b2, b3, addr_add_eq, Nat.zero_add]) | refine iX ?_ ?_ <;> intros | refine aI (by omega) ?_ | fail)
  refine drawn_k 12 ?_
  repeat' (first | (simp (disch := omega) only [push_cast, seval, a0, a1, a2, b2, addr_add_eq, Nat.zero_add]) | refine iX ?_ ?_ <;> intros | refine aI (by omega) ?_ | fail)
  have hsz4 : w.heap.size ≤ w4.heap.size := (l03.trans l4).size
  refine NFn.of hb50 (fun v w' => OwnS w' w.heap.size v x.d) (stb_ownS _ _ _) (fun w' hl => (cloneS_c _ _ w' (hx4.later hl).1 (by omega)).mono fun v w'' hv => ⟨own_base hv.1 (Nat.le_trans hsz4 hl.size), hv.2⟩) ?_
  repeat' (first | (simp (disch := omega) only [push_cast, seval, a0, a1, a2, b2, addr_add_eq, Nat.zero_add]) | refine iX ?_ ?_ <;> intros | refine aI (by omega) ?_ | fail)
  refine nR_bld (RowB w.heap.size x.t (x.n + y.n) x.d) (stb_rowB _ _ _ _ _) (fun σ' w' hl hp => ?_) ?_
  · obtain ⟨hp35, hp38, hp43, _⟩ := hp
    have h35 : σ' 35 = .int .i64 x.t := hp35
    have h38 : OwnS w' w.heap.size (σ' 38) x.d := hp38
    have h43 : σ' 43 = .int .i64 (x.n + y.n) := hp43
    obtain ⟨o3, c3, hv, _⟩ := Sl.openM (Sl.of_own h38 : Sl w' (σ' 38) (x.d.map Value.string))
    rw [hv] at h38
    repeat' (first | (simp (disch := omega) only [push_cast, seval, h35, hv, h43]) | refine iX ?_ ?_ <;> intros | refine aI (by omega) ?_ | fail)
    exact ⟨Later.refl _, _, rfl, h38⟩
  repeat' (first | (simp (disch := omega) only [push_cast, seval]) | refine iX ?_ ?_ <;> intros | refine aI (by omega) ?_ | fail)
  refine nA_of _ (PtV w4 55 #[.int .i64 0, .slice none 0 0, .int .i64 0, .slice none 0 0]) (stb_pt _ _ _ _) (fun w' hl => ?_) ?_
  · repeat' (first | (simp (disch := omega) only [push_cast, seval]) | refine iX ?_ ?_ <;> intros | refine aI (by omega) ?_ | fail)
    exact ⟨later_alloc _ _, w'.heap.size, rfl, hl.size, Blk.new _ _ _⟩
  repeat' (first | (simp (disch := omega) only [push_cast, seval]) | refine iX ?_ ?_ <;> intros | refine aI (by omega) ?_ | fail)
  rintro w5 l5 _ ⟨b, rfl, hb4, Bb⟩ _ ⟨u, rfl, hu⟩ _ _
  obtain ⟨ou, cu, rfl, _⟩ := Sl.openM (Sl.of_own hu : Sl w5 u (x.d.map Value.string))
  have hE0 : EO w5 w.heap.size ⟨x.t, x.d, x.n + y.n, [], .slice ou x.d.length cu, .slice none 0 0⟩ := ⟨hu, OwnR.nil _ _ _⟩
  generalize hU : Value.slice ou x.d.length cu = U at *
  refine vStore_blk (l := [.int .i64 0, .slice none 0 0, .int .i64 0, .slice none 0 0]) (xs := elC ⟨x.t, x.d, x.n + y.n, [], U, .slice none 0 0⟩) Bb rfl rfl (elC_one hE0.is) ?_
  intro w6 Bb6 c6
  have l35 := l4.trans l5
  have hb2 : w.heap.size + 2 < b := Nat.lt_of_lt_of_le hbig (Nat.le_trans l4.size hb4)
  have B35 := B3.chg (Chg.of_later (ks := []) l35) (by simp)
  obtain ⟨_, _, bx5, by5, _⟩ := G w5 l35
  have J0 : JS w w6 b x y U 0 := ⟨by omega, Chg.later (l03.trans l35) c6 (by intro j hj; rw [List.mem_singleton.1 hj]; omega), bx5.chg c6 (by simp; omega), by5.chg c6 (by simp; omega), B35.chg c6 (by simp; omega), [], .slice none 0 0, Bb6, hE0.chg Bb c6, by simp [jaggs]⟩
  clear hE0 Bb6 c6 Bb B35 bx5 by5 G hx4 hy4 a0 a1 a2 a3 a4 b0 b1 b2 b3 b4 hx3 hy3 B3 l2 l3 l03 l4 l5 l35 hu hs
  have f3 : w6.cell? ⟨w.heap.size, 3, none⟩ = some (.slice ox x.a.length cx) := by have := J0.bx.cell 3; rw [← hax]; exact this
  repeat' (first | (simp (disch := omega) only [push_cast, seval, f3, addr_add_eq, Nat.zero_add]) | refine iX ?_ ?_ <;> intros | refine aI (by omega) ?_ | refine dq ?_)
  clear f3
  have fin : ∀ w' z e, JR x y z e → EO w' w.heap.size z → Later w w' → ∃ z e', Value.tuple #[elV z, .int .i64 e] = .tuple #[elV z, .int .i64 e'] ∧ True := fun w' z e _ _ _ => ⟨z, e, rfl, trivial⟩
  refine vc_loop W71_0 (fun i : Nat => [(48, .int .i64 (i : Int))]) (fun i w' => JS w w' b x y U i) (fun i => x.a.length - i) 0 (by decide) ?_ ?_ ?_
  · simp (disch := omega) only [push_cast, seval]
  · exact J0
  clear J0 fin
  rintro i uu w7 J
  have hle := J.le
  have hx7 := (hx.later J.later).2
  have hy7 := (hy.later J.later).2
  rw [hax] at hx7
  rw [hay] at hy7
  by_cases hlt : i < x.a.length
  · have hlt2 : i < y.a.length := by omega
    obtain ⟨lst, av, Bc, hE, hjl⟩ := J.cur
    have hstep := jaggs_step hl hlt hlt2 hjl
    have hAa := ra _ (List.getElem_mem hlt)
    have hAc := sa _ (List.getElem_mem hlt2)
    obtain ⟨aa, rfl, f1⟩ := RecS.at agC_len hx7 hlt
    obtain ⟨bb, rfl, f2⟩ := RecS.at agC_len hy7 hlt2
    have g3 : w7.cell? ⟨w.heap.size + 1, 3, none⟩ = some (.slice (some bb) y.a.length cy) := by have := J.by_.cell 3; rw [← hay]; exact this
    generalize x.a[i] = a at *
    generalize y.a[i] = c at *
    repeat' (first | (simp (disch := omega) only [push_cast, seval, f1]) | refine iX ?_ ?_ <;> intros | refine aI (by omega) ?_ | refine dq ?_)
    refine vStore_new rfl rfl (by simpa using agC_one a) ?_
    have l8 := later_alloc w7 (.cells (agC a).toArray 52)
    have B8 := Blk.new w7 (agC a).toArray 52
    generalize w7.alloc (.cells (agC a).toArray 52) = w8 at *
    generalize w7.heap.size = k8 at *
    have f8 : cellsAt w8 ⟨k8, 0, none⟩ 3 = some (agC a) := Blk.cellsAt (l := agC a) B8
    have g38 := l8.cell g3
    have f28 := cellsAt_later l8 3 f2
    have J8 := J.step l8
    repeat' (first | (simp (disch := omega) only [push_cast, seval]) | refine iX ?_ ?_ <;> intros | refine aI (by omega) ?_ | fail)
    refine drawnS_k 11 ?_
    repeat' (first | (simp (disch := omega) only [push_cast, seval, f8, g38, f28, addr_add_eq, Nat.zero_add]) | refine iX ?_ ?_ <;> intros | refine aI (by omega) ?_ | fail)
    refine NFn.fix hb116 (v := jnV a c) (fun w' _ => ajoin_c a c w' hAa hAc) ?_
    by_cases hf : Fi (a.1 + c.1)
    · have jt : jnV a c = .tuple #[agV (ajn a c), .int .i64 0] := if_pos hf
      rw [jt]
      repeat' (first | (simp (disch := omega) only [push_cast, seval]) | refine iX ?_ ?_ <;> intros | refine aI (by omega) ?_ | fail)
      refine nA_of _ (PtV w8 52 #[.int .i64 0, .int .i64 0, .int .i64 0]) (stb_pt _ _ _ _) (fun w' hl => ?_) ?_
      · repeat' (first | (simp (disch := omega) only [push_cast, seval]) | refine iX ?_ ?_ <;> intros | refine aI (by omega) ?_ | fail)
        exact ⟨later_alloc _ _, w'.heap.size, rfl, hl.size, Blk.new _ _ _⟩
      repeat' (first | (simp (disch := omega) only [push_cast, seval]) | refine iX ?_ ?_ <;> intros | refine aI (by omega) ?_ | fail)
      refine ⟨rfl, fun w9 l9 => ?_⟩
      rintro _ ⟨b9, rfl, hb9, B9⟩
      refine ⟨by simp (disch := omega) only [push_cast, seval, implies_true, and_self], ?_⟩
      repeat' (first | (simp (disch := omega) only [push_cast, seval]) | refine iX ?_ ?_ <;> intros | refine aI (by omega) ?_ | fail)
      refine vStore_blk (l := [.int .i64 0, .int .i64 0, .int .i64 0]) (xs := agC (ajn a c)) B9 rfl rfl (agC_one _) ?_
      intro w10 B10 c10
      have l810 := Chg.later l9 c10 (by intro j hj; rw [List.mem_singleton.1 hj]; exact hb9)
      have J10 := J8.step l810
      have f10 : cellsAt w10 ⟨b9, 0, none⟩ 3 = some (agC (ajn a c)) := Blk.cellsAt (l := agC (ajn a c)) B10
      clear c10 B9 l9 hb9 f8 g38 f28 B8 l8 J8
      obtain ⟨_, hla, hbx, hby, hbz, lst', av', Bc', hE', hjl'⟩ := J10
      have hll : lst' = lst := by rw [hjl] at hjl'; exact (Option.some.inj hjl').symm
      subst hll
      obtain ⟨oa, ca, hav, _⟩ := RecS.slice (OwnR.s hE'.2)
      have hav : av' = .slice oa lst'.length ca := hav
      subst hav
      have hll2 := jaggs_len _ _ _ (by simp; omega) hjl'
      rw [List.length_take] at hll2
      have f11 : w10.cell? ⟨b, 3, none⟩ = some (.slice oa lst'.length ca) := Bc'.cell 3
      have f10' : cellsAt w10 ⟨b9, 0, none⟩ 3 = some [.int .i64 (ajn a c).1, .int .i64 (ajn a c).2.1, .int .i64 (ajn a c).2.2] := f10
      repeat' (first | (simp (disch := omega) only [push_cast, seval, f10', f11, addr_add_eq, Nat.zero_add]) | refine iX ?_ ?_ <;> intros | refine aI (by omega) ?_ | refine dq ?_)
      have la := later_alloc w10 (.cells #[.int .i64 (ajn a c).1, .int .i64 (ajn a c).2.1, .int .i64 (ajn a c).2.2] 52)
      have Bl := Blk.new w10 #[.int .i64 (ajn a c).1, .int .i64 (ajn a c).2.1, .int .i64 (ajn a c).2.2] 52
      have hEa := hE'.later la
      have hOA : OwnA (w10.alloc (.cells #[.int .i64 (ajn a c).1, .int .i64 (ajn a c).2.1, .int .i64 (ajn a c).2.2] 52)) w.heap.size (.slice oa lst'.length ca) lst' := hEa.2
      refine vAppend_rs agC_len agC_one Tryz.underlying53 ti52 rfl (by decide) hOA (RecS.lit1 (agC_len _) Bl) (by simp; omega) (by omega) (Nat.le_trans hla.size la.size) ?_
      intro v' w12 ho hg _
      have cl := Chg.of_later (ks := []) la
      have q1 : Blk w12 _ _ 55 := grown_obj hOA hg (hbx.chg cl (by simp)) (fun cs h => by simp at h)
      have q2 : Blk w12 _ _ 55 := grown_obj hOA hg (hby.chg cl (by simp)) (fun cs h => by simp at h)
      have q3 : Blk w12 _ _ 55 := grown_obj hOA hg (hbz.chg cl (by simp)) (fun cs h => by simp at h)
      have q4 : Blk w12 b _ 55 := grown_obj hOA hg (Bc'.chg cl (by simp)) (fun cs h => by simp at h)
      have q5 := (hla.trans la).appended hOA (Nat.le_refl _) hg
      have q6 : OwnS w12 w.heap.size U x.d := ownS_grown hEa.1 hOA hg
      obtain ⟨o2, c2, hv2, _⟩ := RecS.slice (OwnR.s ho)
      subst hv2
      have hfz := q4.frozen 3
      have hce : ∃ y, w12.cell? ⟨b, 3, none⟩ = some y := ⟨_, q4.cell 3⟩
      have gc := chg_setCell (i := 3) w12 (ks := [b]) (k := b) (by simp) (.slice o2 (lst' ++ [ajn a c]).length c2)
      have z5 := q4.set 3 (.slice o2 (lst' ++ [ajn a c]).length c2)
      repeat' (first | (simp (disch := omega) only [push_cast, seval, hfz, hce, addr_add_eq, Nat.zero_add]) | refine iX ?_ ?_ <;> intros | refine aI (by omega) ?_ | refine dq ?_)
      have hJ : JS w (w12.setCell ⟨b, 3, none⟩ (.slice o2 (lst' ++ [ajn a c]).length c2)) b x y U (i + 1) :=
        ⟨by omega, gc.later q5 (by intro j hj; rw [List.mem_singleton.1 hj]; omega), q1.chg gc (by simp; omega), q2.chg gc (by simp; omega), q3.chg gc (by simp; omega), lst' ++ [ajn a c], _, z5, ⟨own_chg_ty q6 q4 (by decide) gc, own_chg_ty ho q4 (by decide) gc⟩, hstep.1 hf⟩
      exact ⟨rfl, i + 1, by simp (disch := omega) only [push_cast, seval], hJ, by dsimp only; omega⟩
    · have jt : jnV a c = .tuple #[agV (0, 0, 0), .int .i64 121] := if_neg hf
      have hj : JR x y z0 121 := .inr (.inl ⟨hc, by rw [jn_abs, if_neg hn, hstep.2 hf]; rfl, rfl, rfl⟩)
      rw [jt]
      repeat' (first | (simp (disch := omega) only [push_cast, seval]) | refine iX ?_ ?_ <;> intros | refine aI (by omega) ?_ | fail)
      refine nA_of _ (PtV w8 52 #[.int .i64 0, .int .i64 0, .int .i64 0]) (stb_pt _ _ _ _) (fun w' hl => ?_) ?_
      · repeat' (first | (simp (disch := omega) only [push_cast, seval]) | refine iX ?_ ?_ <;> intros | refine aI (by omega) ?_ | fail)
        exact ⟨later_alloc _ _, w'.heap.size, rfl, hl.size, Blk.new _ _ _⟩
      repeat' (first | (simp (disch := omega) only [push_cast, seval]) | refine iX ?_ ?_ <;> intros | refine aI (by omega) ?_ | fail)
      refine ⟨rfl, fun w9 l9 => ?_⟩
      rintro _ ⟨b9, rfl, hb9, B9⟩
      refine ⟨by simp (disch := omega) only [push_cast, seval, implies_true, and_self], ?_⟩
      repeat' (first | (simp (disch := omega) only [push_cast, seval]) | refine iX ?_ ?_ <;> intros | refine aI (by omega) ?_ | fail)
      refine vStore_blk (l := [.int .i64 0, .int .i64 0, .int .i64 0]) (xs := agC (0, 0, 0)) B9 rfl rfl (agC_one _) ?_
      intro w10 B10 c10
      have l810 := Chg.later l9 c10 (by intro j hj; rw [List.mem_singleton.1 hj]; exact hb9)
      have J10 := J8.step l810
      have f10 : cellsAt w10 ⟨b9, 0, none⟩ 3 = some (agC (0, 0, 0)) := Blk.cellsAt (l := agC (0, 0, 0)) B10
      clear c10 B9 l9 hb9 f8 g38 f28 B8 l8 J8
      repeat' (first | (simp (disch := omega) only [push_cast, seval]) | refine iX ?_ ?_ <;> intros | refine aI (by omega) ?_ | refine dq ?_)
      refine vStore_blk (l := [.int .i64 0, .slice none 0 0, .int .i64 0, .slice none 0 0]) (xs := elC z0) J10.bz rfl rfl (elC_one (EO.zero w10 0).is) ?_
      intro w11 B11 c11
      repeat' (first | (simp (disch := omega) only [push_cast, seval]) | refine iX ?_ ?_ <;> intros | refine aI (by omega) ?_ | refine dq ?_)
      refine resK_cells (s := 4) (by simp (disch := omega) only [push_cast, seval]) (by rw [Tryz.underlying55]; exact sz55) (Blk.cellsAt (l := elC z0) B11) ?_
      repeat' (first | (simp (disch := omega) only [push_cast, seval]) | refine iX ?_ ?_ <;> intros | refine aI (by omega) ?_ | refine dq ?_)
      exact ⟨z0, 121, rfl, hj, EO.zero _ _, Chg.later J10.later c11 (by intro j hj; rw [List.mem_singleton.1 hj]; omega)⟩
  · have hi : i = x.a.length := by omega
    subst hi
    obtain ⟨lst, av, Bc, hE, hjl⟩ := J.cur
    rw [List.take_length, hl, List.take_length] at hjl
    have hj : JR x y ⟨x.t, x.d, x.n + y.n, lst, U, av⟩ 0 := .inr (.inr ⟨hc, rfl, by rw [jn_abs, if_neg hn, hjl]; rfl⟩)
    have f4 : cellsAt w7 ⟨b, 0, none⟩ 4 = some (elC ⟨x.t, x.d, x.n + y.n, lst, U, av⟩) := Blk.cellsAt (l := elC ⟨x.t, x.d, x.n + y.n, lst, U, av⟩) Bc
    repeat' (first | (simp (disch := omega) only [push_cast, seval, f4]) | refine iX ?_ ?_ <;> intros | refine aI (by omega) ?_ | refine dq ?_)
    refine vStore_blk (l := [.int .i64 0, .slice none 0 0, .int .i64 0, .slice none 0 0]) (xs := elC ⟨x.t, x.d, x.n + y.n, lst, U, av⟩) J.bz rfl rfl (elC_one hE.is) ?_
    intro w11 B11 c11
    repeat' (first | (simp (disch := omega) only [push_cast, seval]) | refine iX ?_ ?_ <;> intros | refine aI (by omega) ?_ | refine dq ?_)
    refine resK_cells (s := 4) (by simp (disch := omega) only [push_cast, seval]) (by rw [Tryz.underlying55]; exact sz55) (Blk.cellsAt (l := elC ⟨x.t, x.d, x.n + y.n, lst, U, av⟩) B11) ?_
    repeat' (first | (simp (disch := omega) only [push_cast, seval]) | refine iX ?_ ?_ <;> intros | refine aI (by omega) ?_ | refine dq ?_)
    exact ⟨⟨x.t, x.d, x.n + y.n, lst, U, av⟩, 0, rfl, hj, hE.chg J.bz c11, Chg.later J.later c11 (by intro j hj; rw [List.mem_singleton.1 hj]; omega)⟩
end Go.Proofs.YtnofalhkapmcnaaGreat
end
section
set_option linter.unusedSimpArgs false
namespace Go.Proofs.YtnofalhkapmcnaaGreat
open Go.Vc Go.Key Go.Stab
set_option maxRecDepth 100000
theorem sw_near (A B : List El) (p e : El) : sw (A ++ p :: (e :: B)) (A.length + 1) A.length = A ++ e :: (p :: B) := by
  rw [sw_comm _ _ _ (by simp) (by simp)]
  have := sw_app A [] B p e
  simpa using this
set_option maxHeartbeats 1000000 in
theorem insertion_c (B B' g c : Nat) (L X M Y : List El) (w : World) (h : Sw w B B' g c L (X ++ M ++ Y)) :
    FnC Tryz.prog 138 #[.slice (some ⟨g, 0, none⟩) (X ++ M ++ Y).length c, .int .i64 X.length, .int .i64 ((X.length + M.length : Nat) : Int), cmpV] w fun r w' => ∃ M', Srt elt M' ∧ Stb elt M M' ∧ Sw w' B B' g c L (X ++ M' ++ Y) ∧ Chg w w' [g] := by
  have hs := elt_swo
  have hbig := h.big
  have hlen : (X ++ M ++ Y).length = X.length + M.length + Y.length := by simp; omega
  rw [hlen] at hbig
  generalize hN : (X ++ M ++ Y).length = N at *
  refine enter138 _ _ _ _ ?_
  unfold B138
  repeat' (first | (simp (disch := omega) only [push_cast, seval]) | refine iX ?_ ?_ <;> intros | refine aI (by omega) ?_ | refine dq ?_)
  refine vc_loop W138_0 (fun i : Nat => [(8, .int .i64 ((X.length : Int) + 1 + (i : Int)))])
    (fun i w' => i ≤ M.length ∧ ∃ S, S.length = (M.take (i + 1)).length ∧ Srt elt S ∧ Stb elt (M.take (i + 1)) S ∧ Sw w' B B' g c L (X ++ S ++ (M.drop (i + 1) ++ Y)) ∧ Chg w w' [g]) (fun i => M.length - i) 0 (by decide) ?_ ?_ ?_
  · simp (disch := omega) only [push_cast, seval, Int.add_zero]
  · refine ⟨by omega, M.take 1, rfl, ?_, Stb.refl _, ?_, Chg.refl _ _⟩
    · cases M with
      | nil => exact srt_nil
      | cons a M => simp [Srt]
    · have e : X ++ M.take (0 + 1) ++ (M.drop (0 + 1) ++ Y) = X ++ M ++ Y := by
        rw [List.append_assoc X, ← List.append_assoc (M.take _), List.take_append_drop, ← List.append_assoc]
      rw [e]; exact h
  rintro i uu w1 ⟨hi, S, hS, sS, tS, h1, c1⟩
  have hL1 : (X ++ S ++ (M.drop (i + 1) ++ Y)).length = N := by
    simp only [List.length_append, List.length_drop]
    rw [List.length_take] at hS
    omega
  by_cases hlt : i + 1 < M.length
  · obtain ⟨e, he⟩ : ∃ e, e = M[i + 1] := ⟨_, rfl⟩
    have hdr : M.drop (i + 1) = e :: M.drop (i + 2) := by rw [List.drop_eq_getElem_cons hlt, he]
    have htk : M.take (i + 2) = M.take (i + 1) ++ [e] := by rw [take_snoc M (i + 1) hlt, he]
    have hSl : S.length = i + 1 := by rw [hS, List.length_take]; omega
    rw [hdr] at h1
    generalize hR : M.drop (i + 2) = R at *
    repeat' (first | (simp (disch := omega) only [push_cast, seval]) | refine iX ?_ ?_ <;> intros | refine aI (by omega) ?_ | refine dq ?_)
    refine vc_loop W138_1 (fun k : Nat => [(9, .int .i64 ((X.length : Int) + (k : Int)))])
      (fun k w' => ∃ S1 S2, S = S1 ++ S2 ∧ S1.length = k ∧ (∀ s ∈ S2, elt e s = true) ∧ Sw w' B B' g c L ((X ++ S1) ++ e :: (S2 ++ (R ++ Y))) ∧ Chg w w' [g]) (fun k => k) (i + 1) (by decide) ?_ ?_ ?_
    · have e1 : (X.length : Int) + 1 + (i : Int) = (X.length : Int) + ((i : Int) + 1) := by omega
      simp (disch := omega) only [push_cast, seval, e1]
    · exact ⟨S, [], by simp, hSl, by simp, by simpa using h1, c1⟩
    rintro k uu2 w2 ⟨S1, S2, hSS, hk, hS2, h2, c2⟩
    have hL2 : ((X ++ S1) ++ e :: (S2 ++ (R ++ Y))).length = N := by
      rw [← hL1, hSS]
      simp only [List.length_append, List.length_cons, hdr]
      omega
    have hXk : (X ++ S1).length = X.length + k := by rw [List.length_append, hk]
    have hkN : X.length + k < N := by rw [← hL2, ← hXk]; simp
    have fin : ∀ w3, Later w2 w3 → (S1 = [] ∨ ∃ T p, S1 = T ++ [p] ∧ elt e p = false) → ∃ S', S'.length = (M.take (i + 1 + 1)).length ∧ Srt elt S' ∧ Stb elt (M.take (i + 1 + 1)) S' ∧ Sw w3 B B' g c L (X ++ S' ++ (M.drop (i + 1 + 1) ++ Y)) ∧ Chg w w3 [g] := by
      intro w3 l3 hp
      refine ⟨S1 ++ e :: S2, ?_, ins_srt hs (by rw [← hSS]; exact sS) hp hS2, ?_, ?_, c2.trans (Chg.of_later l3)⟩
      · rw [htk, List.length_append, List.length_append, ← hS, hSS]; simp; omega
      · rw [htk]
        have := (tS.append (Stb.refl (lt := elt) [e])).trans (by rw [hSS]; exact ins_stb hs hS2)
        exact this
      · have := h2.later l3
        rw [show M.drop (i + 1 + 1) = R from hR]
        simpa using this
    rcases Nat.eq_zero_or_pos k with hk0 | hk0
    · subst hk0
      have hS1 : S1 = [] := List.length_eq_zero_iff.1 hk
      repeat' (first | (simp (disch := omega) only [push_cast, seval]) | refine iX ?_ ?_ <;> intros | refine aI (by omega) ?_ | refine dq ?_)
      intro w3 l3
      repeat' (first | (simp (disch := omega) only [push_cast, seval]) | refine iX ?_ ?_ <;> intros | refine aI (by omega) ?_ | refine dq ?_)
      have e1 : (X.length : Int) + 1 + (i : Int) + 1 = (X.length : Int) + 1 + ((i : Int) + 1) := by omega
      exact ⟨rfl, i + 1, by simp (disch := omega) only [push_cast, seval, e1], ⟨by omega, fin w3 l3 (.inl hS1)⟩, by dsimp only; omega⟩
    · obtain ⟨T, p, rfl⟩ : ∃ T p, S1 = T ++ [p] := ⟨S1.dropLast, S1.getLast (by intro h; rw [h] at hk; simp at hk; omega), (List.dropLast_concat_getLast _).symm⟩
      have hTk : (X ++ T).length + 1 = X.length + k := by rw [← hXk]; simp; omega
      have hcur : (X ++ (T ++ [p])) ++ e :: (S2 ++ (R ++ Y)) = (X ++ T) ++ p :: (e :: (S2 ++ (R ++ Y))) := by simp
      have ge : ((X ++ (T ++ [p])) ++ e :: (S2 ++ (R ++ Y)))[X.length + k]! = e := by rw [← hXk]; exact get_app _ _ _
      have gp : ((X ++ (T ++ [p])) ++ e :: (S2 ++ (R ++ Y)))[X.length + k - 1]! = p := by
        have : X.length + k - 1 = (X ++ T).length := by omega
        rw [this, hcur]; exact get_app _ _ _
      have fe := h2.at (i := X.length + k) (by omega)
      have fp := h2.at (i := X.length + k - 1) (by omega)
      have oe := h2.elAt (i := X.length + k) (by omega)
      have op := h2.elAt (i := X.length + k - 1) (by omega)
      rw [ge] at fe oe
      rw [gp] at fp op
      have t1 : ((X.length : Int) + (k : Int)).toNat = X.length + k := by omega
      have t2 : ((X.length : Int) + (k : Int) - 1).toNat = X.length + k - 1 := by omega
      have hcmp : elt e p = decide (ecmp e p < 0) := rfl
      repeat' (first | (simp (disch := omega) only [push_cast, seval, t1, t2, fe, fp]) | refine iX ?_ ?_ <;> intros | refine aI (by omega) ?_ | refine dq ?_)
      refine QFn.of hb70 (v := .int .i64 (ecmp e p)) (fun w' hl => rcompare_c e p w' (oe.is.later hl) (op.is.later hl)) ?_
      by_cases hlt2 : ecmp e p < 0
      · repeat' (first | (simp (disch := omega) only [push_cast, seval]) | refine iX ?_ ?_ <;> intros | refine aI (by omega) ?_ | refine dq ?_)
        intro w3 l3
        have h3 := h2.later l3
        have fe := h3.at (i := X.length + k) (by omega)
        have fp := h3.at (i := X.length + k - 1) (by omega)
        rw [ge] at fe
        rw [gp] at fp
        repeat' (first | (simp (disch := omega) only [push_cast, seval]) | refine iX ?_ ?_ <;> intros | refine aI (by omega) ?_ | fail)
        refine drawnS_k 15 ?_
        repeat' (first | (simp (disch := omega) only [push_cast, seval, t1, t2, fe, fp]) | refine iX ?_ ?_ <;> intros | refine aI (by omega) ?_ | fail)
        refine ⟨rfl, fun w4 l4 => ⟨by simp (disch := omega) only [push_cast, seval, implies_true, and_self], ?_⟩⟩
        have h4 := h3.later l4
        repeat' (first | (simp (disch := omega) only [push_cast, seval, t1, t2]) | refine iX ?_ ?_ <;> intros | refine aI (by omega) ?_ | fail)
        have mp := h4.mem (i := X.length + k - 1) (by omega)
        have me := h4.mem (i := X.length + k) (by omega)
        rw [gp] at mp
        rw [ge] at me
        refine h4.store (i := X.length + k) (by omega) mp fun w5 h5 c5 => ?_
        repeat' (first | (simp (disch := omega) only [push_cast, seval, t2]) | refine iX ?_ ?_ <;> intros | refine aI (by omega) ?_ | fail)
        refine h5.store (i := X.length + k - 1) (by simp only [List.length_set]; omega) me fun w6 h6 c6 => ?_
        have e6 : ((((X ++ (T ++ [p])) ++ e :: (S2 ++ (R ++ Y))).set (X.length + k) p).set (X.length + k - 1) e) = (X ++ T) ++ e :: ((p :: S2) ++ (R ++ Y)) := by
          have := sw_near (X ++ T) (S2 ++ (R ++ Y)) p e
          rw [← hcur, hTk] at this
          rw [show X.length + k - 1 = (X ++ T).length by omega]
          unfold sw at this
          rw [ge, show ((X ++ (T ++ [p])) ++ e :: (S2 ++ (R ++ Y)))[(X ++ T).length]! = p by rw [hcur]; exact get_app _ _ _] at this
          simpa using this
        rw [e6] at h6
        have e7 : (X.length : Int) + (k : Int) - 1 = (X.length : Int) + ((k - 1 : Nat) : Int) := by omega
        repeat' (first | (simp (disch := omega) only [push_cast, seval, e7]) | refine iX ?_ ?_ <;> intros | refine aI (by omega) ?_ | refine dq ?_)
        exact ⟨rfl, k - 1, by simp (disch := omega) only [push_cast, seval, e7], ⟨T, p :: S2, by rw [hSS]; simp, by simp at hk; omega, by
          intro s hs'
          rcases List.mem_cons.1 hs' with rfl | hs'
          · rw [hcmp]; exact decide_eq_true hlt2
          · exact hS2 s hs', h6, ((c2.trans (Chg.of_later (l3.trans l4))).trans c5).trans c6⟩, by dsimp only; omega⟩
      · repeat' (first | (simp (disch := omega) only [push_cast, seval]) | refine iX ?_ ?_ <;> intros | refine aI (by omega) ?_ | refine dq ?_)
        intro w3 l3
        repeat' (first | (simp (disch := omega) only [push_cast, seval]) | refine iX ?_ ?_ <;> intros | refine aI (by omega) ?_ | refine dq ?_)
        have e1 : (X.length : Int) + 1 + (i : Int) + 1 = (X.length : Int) + 1 + ((i : Int) + 1) := by omega
        exact ⟨rfl, i + 1, by simp (disch := omega) only [push_cast, seval, e1], ⟨by omega, fin w3 l3 (.inr ⟨T, p, rfl, by rw [hcmp]; exact decide_eq_false hlt2⟩)⟩, by dsimp only; omega⟩
  · have e1 : M.take (i + 1) = M := List.take_of_length_le (by omega)
    have e2 : M.drop (i + 1) = [] := List.drop_eq_nil_of_le (by omega)
    rw [e1] at tS
    rw [e2] at h1
    have hf : ∃ M', Srt elt M' ∧ Stb elt M M' ∧ Sw w1 B B' g c L (X ++ M' ++ Y) ∧ Chg w w1 [g] := ⟨S, sS, tS, by simpa using h1, c1⟩
    repeat' (first | (simp (disch := omega) only [push_cast, seval]) | refine iX ?_ ?_ <;> intros | refine aI (by omega) ?_ | refine dq ?_)
    exact hf
end Go.Proofs.YtnofalhkapmcnaaGreat
end
section
set_option linter.unusedSimpArgs false
namespace Go.Stab
variable {α : Type} {lt : α → α → Bool}
theorem pref_lt [Inhabited α] (hs : Swo lt) {V : List α} {e : α} {p : Nat} (sV : Srt lt V) (hp : p ≤ V.length) (k1 : p = 0 ∨ lt V[p - 1]! e = true) : ∀ s ∈ V.take p, lt s e = true := by
  intro s hs'
  obtain ⟨i, hi, rfl⟩ := mem_at hs'
  rw [List.length_take] at hi
  rcases k1 with h | h
  · omega
  have ex : (V.take p)[i]! = V[i]! := by rw [getElem!_pos _ i (by simp; omega), getElem!_pos V i (by omega), List.getElem_take]
  rw [ex]
  exact hs.le_lt (srt_get hs sV (show i ≤ p - 1 by omega) (by omega)) h
theorem head_at [Inhabited α] {V : List α} {p : Nat} (q : α → Prop) (hp : p ≤ V.length) (k2 : p = V.length ∨ q V[p]!) : V.drop p = [] ∨ ∃ x T, V.drop p = x :: T ∧ q x := by
  rcases k2 with h | h
  · exact .inl (List.drop_eq_nil_of_le (by omega))
  · by_cases hl : p < V.length
    · refine .inr ⟨V[p], V.drop (p + 1), List.drop_eq_getElem_cons hl, ?_⟩
      rwa [getElem!_pos V p hl] at h
    · exact .inl (List.drop_eq_nil_of_le (by omega))
theorem last_at [Inhabited α] {U : List α} {p : Nat} (q : α → Prop) (hp : p ≤ U.length) (k1 : p = 0 ∨ q U[p - 1]!) : U.take p = [] ∨ ∃ T x, U.take p = T ++ [x] ∧ q x := by
  rcases k1 with h | h
  · subst h; exact .inl rfl
  · by_cases h0 : p = 0
    · subst h0; exact .inl rfl
    · refine .inr ⟨U.take (p - 1), U[p - 1], ?_, ?_⟩
      · have := Go.Vc.take_snoc U (p - 1) (by omega)
        rw [show p - 1 + 1 = p by omega] at this
        exact this
      · rwa [getElem!_pos U (p - 1) (by omega)] at h
theorem suf_lt [Inhabited α] (hs : Swo lt) {U : List α} {e : α} {p : Nat} (sU : Srt lt U) (k2 : p = U.length ∨ lt e U[p]! = true) : ∀ s ∈ U.drop p, lt e s = true := by
  intro s hs'
  obtain ⟨i, hi, rfl⟩ := mem_at hs'
  rw [List.length_drop] at hi
  rcases k2 with h | h
  · omega
  have ex : (U.drop p)[i]! = U[p + i]! := by rw [getElem!_pos _ i (by simp; omega), getElem!_pos U (p + i) (by omega), List.getElem_drop]
  rw [ex]
  exact hs.lt_le h (srt_get hs sU (show p ≤ p + i by omega) (by omega))
theorem cur_UV [Inhabited α] (X M Y : List α) {i : Nat} (h1 : X.length ≤ i) (h2 : i < X.length + M.length) : (X ++ M ++ Y)[i]! = M[i - X.length]! := by
  rw [getElem!_pos _ i (by simp; omega), getElem!_pos M _ (by omega), List.getElem_append_left (by simp; omega), List.getElem_append_right h1]
end Go.Stab
namespace Go.Proofs.YtnofalhkapmcnaaGreat
open Go.Vc Go.Key Go.Stab
set_option maxRecDepth 100000
def Mg (B B' g c : Nat) (L X M Y : List El) (w w' : World) : Prop := ∃ Z, Srt elt Z ∧ Stb elt M Z ∧ Sw w' B B' g c L (X ++ Z ++ Y) ∧ Chg w w' [g]
theorem mergeA_c (B B' g c : Nat) (L X : List El) (e : El) (V Y : List El) (a m b : Nat) (w : World) (h : Sw w B B' g c L (X ++ ([e] ++ V) ++ Y)) (hX : X.length = a) (hm : m = a + 1) (hV : V.length = b - m) (hmb : m < b) (sV : Srt elt V) :
    FnC Tryz.prog 139 #[.slice (some ⟨g, 0, none⟩) (X ++ ([e] ++ V) ++ Y).length c, .int .i64 (a : Int), .int .i64 (m : Int), .int .i64 (b : Int), cmpV] w fun r w' => Mg B B' g c L X ([e] ++ V) Y w w' := by
  have hs := elt_swo
  have hbig := h.big
  have hlen : (X ++ ([e] ++ V) ++ Y).length = b + Y.length := by simp; omega
  rw [hlen] at hbig
  have ha : (X ++ ([e] ++ V) ++ Y)[a]! = e := by rw [cur_UV _ _ _ (by omega) (by simp; omega), hX, Nat.sub_self]; rfl
  have gV : ∀ t, t < V.length → (X ++ ([e] ++ V) ++ Y)[m + t]! = V[t]! := fun t ht => by
    rw [cur_UV _ _ _ (by omega) (by simp; omega), hX]
    have : m + t - a = ([e] : List El).length + t := by simp; omega
    rw [this, app_r ht]
  generalize hcur : X ++ ([e] ++ V) ++ Y = cur at *
  generalize hN : cur.length = N at *
  refine enter139 _ _ _ _ _ ?_
  unfold B139
  repeat' (first | (simp (disch := omega) only [push_cast, seval]) | refine iX ?_ ?_ <;> intros | refine aI (by omega) ?_ | refine dq ?_)
  refine vc_loop W139_0 (fun p : Nat × Nat => [(10, .int .i64 (p.1 : Int)), (11, .int .i64 (p.2 : Int))])
    (fun p w' => m ≤ p.1 ∧ p.1 ≤ p.2 ∧ p.2 ≤ b ∧ (p.1 = m ∨ elt cur[p.1 - 1]! cur[a]! = true) ∧ (p.2 = b ∨ elt cur[p.2]! cur[a]! = false) ∧ Later w w') (fun p => p.2 - p.1) (m, b) (by decide) ?_ ?_ ?_
  · simp (disch := omega) only [push_cast, seval]
  · exact ⟨by dsimp only; omega, by dsimp only; omega, by dsimp only; omega, .inl rfl, .inl rfl, Later.refl _⟩
  rintro ⟨i, j⟩ uu w1 ⟨q1, q2, q3, q4, q5, l1⟩
  dsimp only at q1 q2 q3 q4 q5
  have h1 := h.later l1
  by_cases hij : i < j
  · obtain ⟨r, hr⟩ : ∃ r : Nat, r = (i + j) / 2 := ⟨_, rfl⟩
    have e1 : ((i : Int) + (j : Int)) / 2 = (r : Int) := by omega
    have e2 : ((i : Int) + (j : Int)) / 2 ^ 1 = (r : Int) := by rw [Int.pow_succ]; simpa using e1
    have t1 : ((r : Int)).toNat = r := by omega
    have t2 : ((a : Int)).toNat = a := by omega
    have fr := h1.at (i := r) (by omega)
    have fa := h1.at (i := a) (by omega)
    have er := h1.elAt (i := r) (by omega)
    have ea := h1.elAt (i := a) (by omega)
    repeat' (first | (simp (disch := omega) only [push_cast, seval, e1, e2, t1, t2, fr, fa]) | refine iX ?_ ?_ <;> intros | refine aI (by omega) ?_ | refine dq ?_)
    refine QFn.of hb70 (v := .int .i64 (ecmp cur[r]! cur[a]!)) (fun w' hl => rcompare_c _ _ w' (er.is.later hl) (ea.is.later hl)) ?_
    have hcmp : elt cur[r]! cur[a]! = decide (ecmp cur[r]! cur[a]! < 0) := rfl
    by_cases hlt : ecmp cur[r]! cur[a]! < 0
    · repeat' (first | (simp (disch := omega) only [push_cast, seval]) | refine iX ?_ ?_ <;> intros | refine aI (by omega) ?_ | refine dq ?_)
      intro w2 l2
      repeat' (first | (simp (disch := omega) only [push_cast, seval]) | refine iX ?_ ?_ <;> intros | refine aI (by omega) ?_ | refine dq ?_)
      exact ⟨rfl, (r + 1, j), by simp (disch := omega) only [push_cast, seval], ⟨by dsimp only; omega, by dsimp only; omega, q3, .inr (by rw [show r + 1 - 1 = r by omega, hcmp]; exact decide_eq_true hlt), q5, l1.trans l2⟩, by dsimp only; omega⟩
    · repeat' (first | (simp (disch := omega) only [push_cast, seval]) | refine iX ?_ ?_ <;> intros | refine aI (by omega) ?_ | refine dq ?_)
      intro w2 l2
      repeat' (first | (simp (disch := omega) only [push_cast, seval]) | refine iX ?_ ?_ <;> intros | refine aI (by omega) ?_ | refine dq ?_)
      exact ⟨rfl, (i, r), by simp (disch := omega) only [push_cast, seval], ⟨q1, by dsimp only; omega, by dsimp only; omega, q4, .inr (by rw [hcmp]; exact decide_eq_false hlt), l1.trans l2⟩, by dsimp only; omega⟩
  · have hji : j = i := by omega
    subst hji
    obtain ⟨p, hp⟩ : ∃ p, p = j - m := ⟨_, rfl⟩
    have k1 : p = 0 ∨ elt V[p - 1]! e = true := by
      rcases q4 with h | h
      · left; omega
      · by_cases h0 : p = 0
        · exact .inl h0
        · right
          rw [← gV (p - 1) (by omega), ← ha]
          rwa [show m + (p - 1) = j - 1 by omega]
    have k2 : p = V.length ∨ elt V[p]! e = false := by
      rcases q5 with h | h
      · left; omega
      · by_cases h0 : p < V.length
        · right
          rw [← gV p h0, ← ha]
          rwa [show m + p = j by omega]
        · left; omega
    have hV1 := pref_lt hs sV (by omega) k1
    have hV2 := head_at (fun x => elt x e = false) (by omega) k2
    have hVV : V = V.take p ++ V.drop p := (List.take_append_drop _ _).symm
    have hp1 : (V.take p).length = p := by rw [List.length_take]; omega
    generalize V.take p = V1 at *
    generalize V.drop p = V2 at *
    repeat' (first | (simp (disch := omega) only [push_cast, seval]) | refine iX ?_ ?_ <;> intros | refine aI (by omega) ?_ | refine dq ?_)
    refine vc_loop W139_1 (fun s : Nat => [(13, .int .i64 ((a : Int) + (s : Int)))])
      (fun s w' => s ≤ p ∧ ∃ T1 T2, V1 = T1 ++ T2 ∧ T1.length = s ∧ Sw w' B B' g c L ((X ++ T1) ++ e :: (T2 ++ (V2 ++ Y))) ∧ Chg w w' [g]) (fun s => p - s) 0 (by decide) ?_ ?_ ?_
    · simp (disch := omega) only [push_cast, seval, Int.add_zero]
    · refine ⟨by omega, [], V1, rfl, rfl, ?_, Chg.of_later l1⟩
      rw [← hcur, hVV] at h1
      simpa using h1
    rintro s uu2 w2 ⟨hsp, T1, T2, hTT, hT1, h2, c2⟩
    have hXT : (X ++ T1).length = a + s := by rw [List.length_append]; omega
    have hN2 : ((X ++ T1) ++ e :: (T2 ++ (V2 ++ Y))).length = N := by
      rw [← hN, ← hcur, hVV, hTT]
      simp only [List.length_append, List.length_cons, List.length_nil]
      omega
    have hTl := congrArg List.length hTT
    rw [List.length_append] at hTl
    by_cases hlt : s < p
    · obtain ⟨x, T, rfl⟩ : ∃ x T, T2 = x :: T := by
        cases T2 with
        | nil => simp at hTl; omega
        | cons x T => exact ⟨x, T, rfl⟩
      have ge : ((X ++ T1) ++ e :: (x :: T ++ (V2 ++ Y)))[a + s]! = e := by rw [← hXT]; exact get_app _ _ _
      have hcur2 : (X ++ T1) ++ e :: (x :: T ++ (V2 ++ Y)) = ((X ++ T1) ++ [e]) ++ x :: (T ++ (V2 ++ Y)) := by simp
      have gx : ((X ++ T1) ++ e :: (x :: T ++ (V2 ++ Y)))[a + s + 1]! = x := by
        rw [hcur2, show a + s + 1 = ((X ++ T1) ++ [e]).length by rw [List.length_append, hXT]; rfl]; exact get_app _ _ _
      have hN2' : a + s + 1 < ((X ++ T1) ++ e :: (x :: T ++ (V2 ++ Y))).length := by
        rw [hcur2]; simp only [List.length_append, List.length_cons]; omega
      have t1 : ((a : Int) + (s : Int)).toNat = a + s := by omega
      have t2 : ((a : Int) + (s : Int) + 1).toNat = a + s + 1 := by omega
      have fe := h2.at (i := a + s) (by omega)
      have fx := h2.at (i := a + s + 1) (by omega)
      rw [ge] at fe
      rw [gx] at fx
      repeat' (first | (simp (disch := omega) only [push_cast, seval]) | refine iX ?_ ?_ <;> intros | refine aI (by omega) ?_ | fail)
      refine drawnS_k 15 ?_
      repeat' (first | (simp (disch := omega) only [push_cast, seval, t1, t2, fe, fx]) | refine iX ?_ ?_ <;> intros | refine aI (by omega) ?_ | fail)
      refine ⟨rfl, fun w3 l3 => ⟨by simp (disch := omega) only [push_cast, seval, implies_true, and_self], ?_⟩⟩
      have h3 := h2.later l3
      repeat' (first | (simp (disch := omega) only [push_cast, seval, t1, t2]) | refine iX ?_ ?_ <;> intros | refine aI (by omega) ?_ | fail)
      have mx := h3.mem (i := a + s + 1) (by omega)
      have me := h3.mem (i := a + s) (by omega)
      rw [gx] at mx
      rw [ge] at me
      refine h3.store (i := a + s) (by omega) mx fun w4 h4 c4 => ?_
      repeat' (first | (simp (disch := omega) only [push_cast, seval, t2]) | refine iX ?_ ?_ <;> intros | refine aI (by omega) ?_ | fail)
      refine h4.store (i := a + s + 1) (by simp only [List.length_set]; omega) me fun w5 h5 c5 => ?_
      have e6 : ((((X ++ T1) ++ e :: (x :: T ++ (V2 ++ Y))).set (a + s) x).set (a + s + 1) e) = (X ++ (T1 ++ [x])) ++ e :: (T ++ (V2 ++ Y)) := by
        have := sw_app (X ++ T1) [] (T ++ (V2 ++ Y)) e x
        unfold sw at this
        rw [show (X ++ T1).length + 1 + ([] : List El).length = a + s + 1 by rw [hXT]; rfl, hXT] at this
        have hcc : (X ++ T1) ++ e :: ([] ++ x :: (T ++ (V2 ++ Y))) = (X ++ T1) ++ e :: (x :: T ++ (V2 ++ Y)) := by simp
        rw [hcc, ge, gx] at this
        rw [this]
        simp
      rw [e6] at h5
      have e7 : (a : Int) + (s : Int) + 1 = (a : Int) + ((s : Int) + 1) := by omega
      repeat' (first | (simp (disch := omega) only [push_cast, seval, e7]) | refine iX ?_ ?_ <;> intros | refine aI (by omega) ?_ | refine dq ?_)
      exact ⟨rfl, s + 1, by simp (disch := omega) only [push_cast, seval, e7], ⟨by omega, T1 ++ [x], T, by rw [hTT]; simp, by simp [hT1], h5, ((c2.trans (Chg.of_later l3)).trans c4).trans c5⟩, by dsimp only; omega⟩
    · have hT2 : T2 = [] := List.length_eq_zero_iff.1 (by omega)
      subst hT2
      rw [List.append_nil] at hTT
      subst hTT
      have hf : Mg B B' g c L X ([e] ++ V) Y w w2 := by
        refine ⟨V1 ++ e :: V2, front_srt hs (by rw [← hVV]; exact sV) hV1 hV2, ?_, by simpa using h2, c2⟩
        rw [hVV]
        exact front_stb hs hV1
      repeat' (first | (simp (disch := omega) only [push_cast, seval]) | refine iX ?_ ?_ <;> intros | refine aI (by omega) ?_ | refine dq ?_)
      exact hf
theorem mergeB_c (B B' g c : Nat) (L X U : List El) (e : El) (Y : List El) (a m b : Nat) (w : World) (h : Sw w B B' g c L (X ++ (U ++ [e]) ++ Y)) (hX : X.length = a) (hU : U.length = m - a) (ham : a + 1 < m) (hb : b = m + 1) (sU : Srt elt U) :
    FnC Tryz.prog 139 #[.slice (some ⟨g, 0, none⟩) (X ++ (U ++ [e]) ++ Y).length c, .int .i64 (a : Int), .int .i64 (m : Int), .int .i64 (b : Int), cmpV] w fun r w' => Mg B B' g c L X (U ++ [e]) Y w w' := by
  have hs := elt_swo
  have hbig := h.big
  have hlen : (X ++ (U ++ [e]) ++ Y).length = b + Y.length := by simp; omega
  rw [hlen] at hbig
  have hme : (X ++ (U ++ [e]) ++ Y)[m]! = e := by
    rw [cur_UV _ _ _ (by omega) (by simp; omega), hX]
    have : m - a = U.length + 0 := by omega
    rw [this, app_r (by simp)]; rfl
  have gU : ∀ t, t < U.length → (X ++ (U ++ [e]) ++ Y)[a + t]! = U[t]! := fun t ht => by
    rw [cur_UV _ _ _ (by omega) (by simp; omega), hX, show a + t - a = t by omega, app_l ht]
  generalize hcur : X ++ (U ++ [e]) ++ Y = cur at *
  generalize hN : cur.length = N at *
  refine enter139 _ _ _ _ _ ?_
  unfold B139
  repeat' (first | (simp (disch := omega) only [push_cast, seval]) | refine iX ?_ ?_ <;> intros | refine aI (by omega) ?_ | refine dq ?_)
  refine vc_loop W139_2 (fun p : Nat × Nat => [(14, .int .i64 (p.1 : Int)), (15, .int .i64 (p.2 : Int))])
    (fun p w' => a ≤ p.1 ∧ p.1 ≤ p.2 ∧ p.2 ≤ m ∧ (p.1 = a ∨ elt cur[m]! cur[p.1 - 1]! = false) ∧ (p.2 = m ∨ elt cur[m]! cur[p.2]! = true) ∧ Later w w') (fun p => p.2 - p.1) (a, m) (by decide) ?_ ?_ ?_
  · simp (disch := omega) only [push_cast, seval]
  · exact ⟨by dsimp only; omega, by dsimp only; omega, by dsimp only; omega, .inl rfl, .inl rfl, Later.refl _⟩
  rintro ⟨i, j⟩ uu w1 ⟨q1, q2, q3, q4, q5, l1⟩
  dsimp only at q1 q2 q3 q4 q5
  have h1 := h.later l1
  by_cases hij : i < j
  · obtain ⟨r, hr⟩ : ∃ r : Nat, r = (i + j) / 2 := ⟨_, rfl⟩
    have e1 : ((i : Int) + (j : Int)) / 2 = (r : Int) := by omega
    have e2 : ((i : Int) + (j : Int)) / 2 ^ 1 = (r : Int) := by rw [Int.pow_succ]; simpa using e1
    have t1 : ((r : Int)).toNat = r := by omega
    have t2 : ((m : Int)).toNat = m := by omega
    have fr := h1.at (i := r) (by omega)
    have fa := h1.at (i := m) (by omega)
    have er := h1.elAt (i := r) (by omega)
    have ea := h1.elAt (i := m) (by omega)
    repeat' (first | (simp (disch := omega) only [push_cast, seval, e1, e2, t1, t2, fr, fa]) | refine iX ?_ ?_ <;> intros | refine aI (by omega) ?_ | refine dq ?_)
    refine QFn.of hb70 (v := .int .i64 (ecmp cur[m]! cur[r]!)) (fun w' hl => rcompare_c _ _ w' (ea.is.later hl) (er.is.later hl)) ?_
    have hcmp : elt cur[m]! cur[r]! = decide (ecmp cur[m]! cur[r]! < 0) := rfl
    by_cases hlt : ecmp cur[m]! cur[r]! < 0
    · repeat' (first | (simp (disch := omega) only [push_cast, seval]) | refine iX ?_ ?_ <;> intros | refine aI (by omega) ?_ | refine dq ?_)
      intro w2 l2
      repeat' (first | (simp (disch := omega) only [push_cast, seval]) | refine iX ?_ ?_ <;> intros | refine aI (by omega) ?_ | refine dq ?_)
      exact ⟨rfl, (i, r), by simp (disch := omega) only [push_cast, seval], ⟨q1, by dsimp only; omega, by dsimp only; omega, q4, .inr (by rw [hcmp]; exact decide_eq_true hlt), l1.trans l2⟩, by dsimp only; omega⟩
    · repeat' (first | (simp (disch := omega) only [push_cast, seval]) | refine iX ?_ ?_ <;> intros | refine aI (by omega) ?_ | refine dq ?_)
      intro w2 l2
      repeat' (first | (simp (disch := omega) only [push_cast, seval]) | refine iX ?_ ?_ <;> intros | refine aI (by omega) ?_ | refine dq ?_)
      exact ⟨rfl, (r + 1, j), by simp (disch := omega) only [push_cast, seval], ⟨by dsimp only; omega, by dsimp only; omega, q3, .inr (by rw [show r + 1 - 1 = r by omega, hcmp]; exact decide_eq_false hlt), q5, l1.trans l2⟩, by dsimp only; omega⟩
  · have hji : j = i := by omega
    subst hji
    obtain ⟨p, hp⟩ : ∃ p, p = j - a := ⟨_, rfl⟩
    have k1 : p = 0 ∨ elt e U[p - 1]! = false := by
      rcases q4 with h | h
      · left; omega
      · by_cases h0 : p = 0
        · exact .inl h0
        · right
          rw [← gU (p - 1) (by omega), ← hme]
          rwa [show a + (p - 1) = j - 1 by omega]
    have k2 : p = U.length ∨ elt e U[p]! = true := by
      rcases q5 with h | h
      · left; omega
      · by_cases h0 : p < U.length
        · right
          rw [← gU p h0, ← hme]
          rwa [show a + p = j by omega]
        · left; omega
    have hS1 := last_at (fun x => elt e x = false) (by omega) k1
    have hS2 := suf_lt hs sU k2
    have hUU : U = U.take p ++ U.drop p := (List.take_append_drop _ _).symm
    have hp1 : (U.take p).length = p := by rw [List.length_take]; omega
    have hp2 : (U.drop p).length = m - j := by rw [List.length_drop]; omega
    generalize U.take p = S1 at *
    generalize U.drop p = S2 at *
    repeat' (first | (simp (disch := omega) only [push_cast, seval]) | refine iX ?_ ?_ <;> intros | refine aI (by omega) ?_ | refine dq ?_)
    refine vc_loop W139_3 (fun s : Nat => [(17, .int .i64 ((j : Int) + (s : Int)))])
      (fun s w' => ∃ T1 T2, S2 = T1 ++ T2 ∧ T1.length = s ∧ Sw w' B B' g c L ((X ++ (S1 ++ T1)) ++ e :: (T2 ++ Y)) ∧ Chg w w' [g]) (fun s => s) (m - j) (by decide) ?_ ?_ ?_
    · have e0 : (j : Int) + ((m : Int) - (j : Int)) = (m : Int) := by omega
      simp (disch := omega) only [push_cast, seval, e0]
    · refine ⟨S2, [], by simp, hp2, ?_, Chg.of_later l1⟩
      rw [← hcur, hUU] at h1
      simpa using h1
    rintro s uu2 w2 ⟨T1, T2, hTT, hT1, h2, c2⟩
    have hXT : (X ++ (S1 ++ T1)).length = j + s := by rw [List.length_append, List.length_append]; omega
    have hN2 : ((X ++ (S1 ++ T1)) ++ e :: (T2 ++ Y)).length = N := by
      rw [← hN, ← hcur, hUU, hTT]
      simp only [List.length_append, List.length_cons, List.length_nil]
      omega
    have hTl := congrArg List.length hTT
    rw [List.length_append] at hTl
    by_cases hlt : 0 < s
    · obtain ⟨T, x, rfl⟩ : ∃ T x, T1 = T ++ [x] := ⟨T1.dropLast, T1.getLast (by intro h; rw [h] at hT1; simp at hT1; omega), (List.dropLast_concat_getLast _).symm⟩
      have hcur2 : (X ++ (S1 ++ (T ++ [x]))) ++ e :: (T2 ++ Y) = (X ++ (S1 ++ T)) ++ x :: (e :: (T2 ++ Y)) := by simp
      have hXT' : (X ++ (S1 ++ T)).length = j + s - 1 := by simp only [List.length_append, List.length_cons, List.length_nil] at hXT ⊢; omega
      have ge : ((X ++ (S1 ++ (T ++ [x]))) ++ e :: (T2 ++ Y))[j + s]! = e := by rw [← hXT]; exact get_app _ _ _
      have gx : ((X ++ (S1 ++ (T ++ [x]))) ++ e :: (T2 ++ Y))[j + s - 1]! = x := by rw [hcur2, ← hXT']; exact get_app _ _ _
      have hN2' : j + s < ((X ++ (S1 ++ (T ++ [x]))) ++ e :: (T2 ++ Y)).length := by
        rw [List.length_append, hXT]; simp
      have t1 : ((j : Int) + (s : Int)).toNat = j + s := by omega
      have t2 : ((j : Int) + (s : Int) - 1).toNat = j + s - 1 := by omega
      have fe := h2.at (i := j + s) (by omega)
      have fx := h2.at (i := j + s - 1) (by omega)
      rw [ge] at fe
      rw [gx] at fx
      repeat' (first | (simp (disch := omega) only [push_cast, seval]) | refine iX ?_ ?_ <;> intros | refine aI (by omega) ?_ | fail)
      refine drawnS_k 15 ?_
      repeat' (first | (simp (disch := omega) only [push_cast, seval, t1, t2, fe, fx]) | refine iX ?_ ?_ <;> intros | refine aI (by omega) ?_ | fail)
      refine ⟨rfl, fun w3 l3 => ⟨by simp (disch := omega) only [push_cast, seval, implies_true, and_self], ?_⟩⟩
      have h3 := h2.later l3
      repeat' (first | (simp (disch := omega) only [push_cast, seval, t1, t2]) | refine iX ?_ ?_ <;> intros | refine aI (by omega) ?_ | fail)
      have mx := h3.mem (i := j + s - 1) (by omega)
      have me := h3.mem (i := j + s) (by omega)
      rw [gx] at mx
      rw [ge] at me
      refine h3.store (i := j + s) (by omega) mx fun w4 h4 c4 => ?_
      repeat' (first | (simp (disch := omega) only [push_cast, seval, t2]) | refine iX ?_ ?_ <;> intros | refine aI (by omega) ?_ | fail)
      refine h4.store (i := j + s - 1) (by simp only [List.length_set]; omega) me fun w5 h5 c5 => ?_
      have e6 : ((((X ++ (S1 ++ (T ++ [x]))) ++ e :: (T2 ++ Y)).set (j + s) x).set (j + s - 1) e) = (X ++ (S1 ++ T)) ++ e :: ((x :: T2) ++ Y) := by
        have := sw_near (X ++ (S1 ++ T)) (T2 ++ Y) x e
        unfold sw at this
        rw [← hcur2, show (X ++ (S1 ++ T)).length + 1 = j + s by rw [hXT']; omega, hXT', ge, gx] at this
        rw [this]
        simp
      rw [e6] at h5
      have e7 : (j : Int) + (s : Int) - 1 = (j : Int) + ((s - 1 : Nat) : Int) := by omega
      repeat' (first | (simp (disch := omega) only [push_cast, seval, e7]) | refine iX ?_ ?_ <;> intros | refine aI (by omega) ?_ | refine dq ?_)
      exact ⟨rfl, s - 1, by simp (disch := omega) only [push_cast, seval, e7], ⟨T, x :: T2, by rw [hTT]; simp, by simp at hT1; omega, h5, ((c2.trans (Chg.of_later l3)).trans c4).trans c5⟩, by dsimp only; omega⟩
    · have hT2 : T1 = [] := List.length_eq_zero_iff.1 (by omega)
      subst hT2
      rw [List.nil_append] at hTT
      subst hTT
      have hf : Mg B B' g c L X (U ++ [e]) Y w w2 := by
        refine ⟨S1 ++ e :: S2, ins_srt hs (by rw [← hUU]; exact sU) hS1 hS2, ?_, by simpa using h2, c2⟩
        rw [hUU]
        exact ins_stb hs hS2
      repeat' (first | (simp (disch := omega) only [push_cast, seval]) | refine iX ?_ ?_ <;> intros | refine aI (by omega) ?_ | refine dq ?_)
      exact hf
end Go.Proofs.YtnofalhkapmcnaaGreat
end
