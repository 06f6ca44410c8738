/- Contracts: a list of rows of its own (a range over a function). -/
import Derived.ArgAppend
import Derived.Test.YthihbgpaoldbjaaPartG
set_option linter.all false
open Nat renaming reduceEqDiff → zA, reducePow → zB, reduceMul → zC, reduceAdd → zD, reduceSub → zE, reduceLeDiff → zF
open Int renaming reduceToNat → zG, reducePow → zH, reduceNeg → zI, reduceMul → zJ, reduceAdd → zK, reduceSub → zL, reduceLT → zM, reduceLE → zN, reduceEq → zO, reduceMod → zP, reduceDiv → zQ
section
set_option linter.unusedSimpArgs false
namespace Go.Proofs.Ythihbgpaoldbjaa
open Go.Vc Go.Key Go.Stab
set_option maxRecDepth 100000
def ptr (k : Nat) : Value := .pointer (some ⟨k, 0, none⟩)
/-- What a row says, wherever its lists lie. -/
def El.abs (e : El) : Int × List ByteArray × Int × List Ag := (e.t, e.d, e.n, e.a)
theorem EO.obj {w w' : World} {B k : Nat} {o : Obj} {e : El} (h : EO w B e) (hb : w.heap[k]? = some o) (ho : o.isCells = false) (g : Chg w w' [k]) : EO w' B e := ⟨own_obj h.1 hb ho g, own_obj h.2 hb ho g⟩
theorem EO.cellOut {w w' : World} {B k : Nat} {cs : Array Value} {e : El} (h : EO w B e) (hb : Blk w k cs 25) (g : Chg w w' [k]) : EO w' B e := ⟨own_chg_ty h.1 hb (by decide) g, own_chg_ty h.2 hb (by decide) g⟩
theorem EO.grown {w w' : World} {B B' : Nat} {v : Value} {es : List El} {e : El} (h : EO w B' e) (hv : OwnE w B v es) (g : w.grownBy w' v.ownBlock) : EO w' B' e := by
  have gc := Chg.of_grown g
  obtain ⟨o, c, rfl, _⟩ := RecS.slice (OwnR.s hv)
  cases o with
  | none => exact h.later ⟨gc.os, gc.tape, gc.output, gc.size, fun k hk => gc.block k hk (by simp [Value.ownBlock])⟩
  | some a =>
    obtain ⟨k, rfl, _, _, ⟨cs, hb⟩, _⟩ := own_writes hv
    exact h.chg hb gc
theorem values_c (o : Option Addr) (n c : Nat) (w : World) : FnC Try.prog 68 #[.slice o n c] w fun r w' => r = .func (.func 98) #[] #[ptr w.heap.size] ∧ Later w w' ∧ w'.heap.size = w.heap.size + 1 ∧ Blk w' w.heap.size #[.slice o n c] 25 := by
  refine enter68 _ ?_
  unfold B68 ptr
  have ec : (Value.slice o n c).cells = #[.slice o n c] := rfl
  repeat' (first | (simp (disch := omega) only [push_cast, ↓reduceIte, zA, zG, zB, zH, zI, zC, zJ, zK, zL, zD, zE, zF, zM, zN, zO, zP, zQ, reduceCtorEq, not_true_eq_false, not_false_eq_true, ec]) | (first | refine vIfE_of ?_ ?_ | refine vIfD_of ?_ ?_ | refine vIfQ_of ?_ ?_ | refine vIfV_of ?_ ?_) <;> intro _ | refine And.intro (by omega) ?_ | refine drawn_q ?_ | fail)
  have l1 := later_alloc w (.cells #[.slice o n c] 25)
  have s1 := World.size_alloc w (.cells #[.slice o n c] 25)
  have B1 := Blk.new w #[.slice o n c] 25
  first | exact ⟨rfl, l1, ⟨s1, B1⟩⟩ | exact ⟨l1, ⟨s1, B1⟩⟩ | exact ⟨s1, B1⟩
theorem vals_c (L k1 : Nat) (v : Value) (l : List El) (I : Nat → World → Prop) (w : World) (h0 : I 0 w) (hl : l.length ≤ 1000000) (hstab : ∀ i w1 w2, I i w1 → Later w1 w2 → I i w2)
    (hI : ∀ i w1, I i w1 → RecS elC 4 w1 v l ∧ Blk w1 k1 #[v] 25 ∧ ∀ e ∈ l, EIs w1 e)
    (hy : ∀ i (hi : i < l.length) w1, I i w1 → YldC Try.prog L #[elV l[i]] w1 fun b w2 => b = .bool true ∧ I (i + 1) w2) :
    FnC Try.prog 98 #[.func (.yield L) #[] #[], ptr k1] w fun _ w' => I l.length w' := by
  obtain ⟨r0, b0, _⟩ := hI 0 w h0
  obtain ⟨o, c, rfl, gc1, gc2⟩ := r0.slice
  refine enter98 _ _ ?_
  unfold B98 ptr
  have f0 : w.cell? ⟨k1, 0, none⟩ = some (.slice o l.length c) := b0.cell 0
  repeat' (first | (simp (disch := omega) only [push_cast, ↓reduceIte, zA, zG, zB, zH, zI, zC, zJ, zK, zL, zD, zE, zF, zM, zN, zO, zP, zQ, reduceCtorEq, not_true_eq_false, not_false_eq_true, f0]) | (first | refine vIfE_of ?_ ?_ | refine vIfD_of ?_ ?_ | refine vIfQ_of ?_ ?_ | refine vIfV_of ?_ ?_) <;> intro _ | refine And.intro (by omega) ?_ | refine drawn_q ?_ | fail)
  refine vc_loop W98_0 (fun i : Nat => [(7, .int .i64 (i : Int))]) (fun i w' => i ≤ l.length ∧ I i w') (fun i => l.length - i) 0 (by decide) ?_ ?_ ?_
  · simp (disch := omega) only [push_cast, ↓reduceIte, zA, zG, zB, zH, zI, zC, zJ, zK, zL, zD, zE, zF, zM, zN, zO, zP, zQ, reduceCtorEq, not_true_eq_false, not_false_eq_true]
  · exact ⟨by omega, h0⟩
  rintro i uu w1 ⟨hi, h1⟩
  by_cases hlt : i < l.length
  · obtain ⟨r1, b1, e1⟩ := hI i w1 h1
    obtain ⟨a, rfl, f1⟩ := RecS.at elC_len r1 hlt
    have he := e1 l[i] (List.getElem_mem _)
    have hone := elC_one he
    have hyi := hy i hlt
    generalize l[i] = e at *
    have l2 := later_alloc w1 (.cells (elC e).toArray 35)
    have B2 := Blk.new w1 (elC e).toArray 35
    have f2 : cellsAt (w1.alloc (.cells (elC e).toArray 35)) ⟨w1.heap.size, 0, none⟩ 4 = some (elC e) := Blk.cellsAt (l := elC e) B2
    repeat' (first | (simp (disch := omega) only [push_cast, ↓reduceIte, zA, zG, zB, zH, zI, zC, zJ, zK, zL, zD, zE, zF, zM, zN, zO, zP, zQ, reduceCtorEq, not_true_eq_false, not_false_eq_true, f1]) | (first | refine vIfE_of ?_ ?_ | refine vIfD_of ?_ ?_ | refine vIfQ_of ?_ ?_ | refine vIfV_of ?_ ?_) <;> intro _ | refine And.intro (by omega) ?_ | refine drawn_q ?_ | fail)
    refine vStore_new rfl rfl (by simpa using hone) ?_
    have h2 := hstab i w1 _ h1 l2
    generalize w1.alloc (.cells (elC e).toArray 35) = w2 at *
    generalize w1.heap.size = k2 at *
    repeat' (first | (simp (disch := omega) only [push_cast, ↓reduceIte, zA, zG, zB, zH, zI, zC, zJ, zK, zL, zD, zE, zF, zM, zN, zO, zP, zQ, reduceCtorEq, not_true_eq_false, not_false_eq_true, f2]) | (first | refine vIfE_of ?_ ?_ | refine vIfD_of ?_ ?_ | refine vIfQ_of ?_ ?_ | refine vIfV_of ?_ ?_) <;> intro _ | refine And.intro (by omega) ?_ | refine drawn_q ?_ | fail)
    refine vcUp_mono (hyi w2 h2) ?_
    rintro _ w3 ⟨rfl, h3⟩
    repeat' (first | (simp (disch := omega) only [push_cast, ↓reduceIte, zA, zG, zB, zH, zI, zC, zJ, zK, zL, zD, zE, zF, zM, zN, zO, zP, zQ, reduceCtorEq, not_true_eq_false, not_false_eq_true]) | (first | refine vIfE_of ?_ ?_ | refine vIfD_of ?_ ?_ | refine vIfQ_of ?_ ?_ | refine vIfV_of ?_ ?_) <;> intro _ | refine And.intro (by omega) ?_ | refine drawn_q ?_ | fail)
    exact ⟨rfl, i + 1, by simp (disch := omega) only [push_cast, ↓reduceIte, zA, zG, zB, zH, zI, zC, zJ, zK, zL, zD, zE, zF, zM, zN, zO, zP, zQ, reduceCtorEq, not_true_eq_false, not_false_eq_true], ⟨by omega, h3⟩, by dsimp only; omega⟩
  · have e : i = l.length := by omega
    subst e
    repeat' (first | (simp (disch := omega) only [push_cast, ↓reduceIte, zA, zG, zB, zH, zI, zC, zJ, zK, zL, zD, zE, zF, zM, zN, zO, zP, zQ, reduceCtorEq, not_true_eq_false, not_false_eq_true]) | (first | refine vIfE_of ?_ ?_ | refine vIfD_of ?_ ?_ | refine vIfQ_of ?_ ?_ | refine vIfV_of ?_ ?_) <;> intro _ | refine And.intro (by omega) ?_ | refine drawn_q ?_ | fail)
    exact h1
/-- Rows behind rows of the call's own. -/
theorem vAppend_e {w : World} {K : Value → World → Prop} {ty : TypeId} {B : Nat} {v x : Value} {l r : List El} (hown : OwnE w B v l) (hx : RecS elC 4 w x r) (h1 : ∀ e ∈ r, EIs w e) (h63 : l.length + r.length ≤ 100000000) (hbase : B ≤ w.heap.size)
    (hK : ∀ v' w', OwnE w' B v' (l ++ r) → w.grownBy w' v.ownBlock → (v'.ownBlock = v.ownBlock ∨ v'.ownBlock = some w.heap.size) → K v' w') : vAppend Try.prog #[25, 25] ty #[v, x] K w := by
  refine vAppend_at Try.underlying25 ti35 rfl (by decide) hown hx ?_ (by unfold maxLen; omega) (by omega) hbase ?_
  · intro u hu
    obtain ⟨ys, hy, hu⟩ := List.mem_flatten.1 hu
    obtain ⟨p, hp, rfl⟩ := List.mem_map.1 hy
    exact elC_one (h1 p hp) u hu
  · intro v' w' ho hg hs
    refine hK v' w' ?_ hg hs
    unfold OwnE OwnR
    simpa using ho
/-- A literal's row, of what hangs on the world. -/
theorem nR_build {P : Program} {t n : Nat} {ps : Array (Nat × Operand)} {ty : TypeId} {rs : List Nat} {Ns : NS} {σ : Env} {w : World} {Kv : Value → Prop} {Kn : (Value → World → Prop) → Prop} (V' : Value → World → Prop) (hV' : Stb w V')
    (h : ∀ σ' w', Later w w' → psis Ns σ w' σ' rs → vBuildSlice P t n (ps.map fun (i, x) => (i, ev σ' x)) (fun v w'' => Later w' w'' ∧ V' v w'') w') (hk : Kn V') : nR P (.buildSlice t n ps) ty rs Ns σ w Kv Kn :=
  .inr ⟨V', hV', fun σ' w' hl hp => nUp_val (h σ' w' hl hp), hk⟩
/-- A row of one's own that says what another says, as a value, as a literal's row. -/
def OneV (B : Nat) (e : El) (v : Value) (w : World) : Prop := ∃ e' : El, v = elV e' ∧ e'.abs = e.abs ∧ EO w B e'
def OneR (B : Nat) (e : El) (v : Value) (w : World) : Prop := ∃ (e' : El) (b : Nat), v = .slice (some ⟨b, 0, none⟩) 1 1 ∧ e'.abs = e.abs ∧ EO w B e' ∧ Blk w b (elC e').toArray 35
theorem stb_oneV (w0 : World) (B : Nat) (e : El) : Stb w0 (OneV B e) := by
  rintro v w w' _ hl ⟨e', h1, h2, h3⟩
  exact ⟨e', h1, h2, h3.later hl⟩
theorem stb_oneR (w0 : World) (B : Nat) (e : El) : Stb w0 (OneR B e) := by
  rintro v w w' _ hl ⟨e', b, h1, h2, h3, h4⟩
  exact ⟨e', b, h1, h2, h3.later hl, h4.chg (Chg.of_later (ks := []) hl) (by simp)⟩
/-- What holds between the rounds. -/
structure CpS (w w' : World) (L : Nat) (o : Obj) (v : Value) (l : List El) (i : Nat) : Prop where
  le : i ≤ l.length
  rec_ : w'.heap[L]? = some o
  def_ : w'.heap[w.heap.size + 2]? = some (.deferred (some []))
  later : Later w w'
  box : Blk w' (w.heap.size + 1) #[v] 25
  out : ∃ ov es, Blk w' w.heap.size #[ov] 25 ∧ OwnE w' w.heap.size ov es ∧ es.map El.abs = (l.take i).map El.abs ∧ ∀ e ∈ es, EO w' w.heap.size e
theorem CpS.step {w w1 w2 : World} {L : Nat} {o : Obj} {v : Value} {l : List El} {i : Nat} (h : CpS w w1 L o v l i) (hl : Later w1 w2) : CpS w w2 L o v l i := by
  obtain ⟨h0, h1, h2, h3, h4, ov, es, h5, h6, h7, h8⟩ := h
  exact ⟨h0, heap_later h1 hl, heap_later h2 hl, h3.trans hl, h4.chg (Chg.of_later (ks := []) hl) (by simp), ov, es, h5.chg (Chg.of_later (ks := []) hl) (by simp), h6.later hl, h7, fun e he => (h8 e he).later hl⟩
theorem CpS.put {w w1 : World} {L : Nat} {o : Obj} {v : Value} {l : List El} {i : Nat} (h : CpS w w1 L o v l i) (ho : o.isCells = false) (hL : L = w.heap.size + 3) (o' : Obj) : CpS w (w1.putObj L o') L o' v l i := by
  obtain ⟨h0, h1, h2, h3, h4, ov, es, h5, h6, h7, h8⟩ := h
  have g := chg_putObj w1 (L := L) (ks := [L]) (by simp) o'
  exact ⟨h0, World.putObj_heap_same (Array.getElem?_eq_some_iff.1 h1).1, heap_chg h2 g (by simp; omega), g.later h3 (by simp; omega), h4.chg g (by simp; omega), ov, es, h5.chg g (by simp; omega), own_obj h6 h1 ho g, h7, fun e he => (h8 e he).obj h1 ho g⟩
/-- Rows that say what others say, of someone's own. -/
def CopyR (w : World) (B : Nat) (r : Value) (l : List El) : Prop := ∃ es, OwnE w B r es ∧ es.map El.abs = l.map El.abs ∧ ∀ e ∈ es, EO w B e
theorem copy_c (v : Value) (l : List El) (w : World) (h : RecS elC 4 w v l) (hes : ∀ e ∈ l, EIs w e ∧ e.d.length ≤ 1000000 ∧ e.a.length ≤ 1000000) (hl : l.length ≤ 100000) : FnC Try.prog 30 #[v] w fun r w' => CopyR w' w.heap.size r l ∧ Later w w' := by
  obtain ⟨o, c, rfl, gc1, gc2⟩ := h.slice
  refine enter30 _ ?_
  unfold B30
  have B0 := Blk.new w #[.slice none 0 0] 25
  have s0 := World.size_alloc w (.cells #[.slice none 0 0] 25)
  have l0 := later_alloc w (.cells #[.slice none 0 0] 25)
  repeat' (first | (simp (disch := omega) only [push_cast, ↓reduceIte, zA, zG, zB, zH, zI, zC, zJ, zK, zL, zD, zE, zF, zM, zN, zO, zP, zQ, reduceCtorEq, not_true_eq_false, not_false_eq_true]) | (first | refine vIfE_of ?_ ?_ | refine vIfD_of ?_ ?_ | refine vIfQ_of ?_ ?_ | refine vIfV_of ?_ ?_) <;> intro _ | refine And.intro (by omega) ?_ | refine drawn_q ?_ | fail)
  generalize w.alloc (.cells #[.slice none 0 0] 25) = w1 at *
  refine (values_c o l.length c w1).mono ?_
  rintro _ w2 ⟨rfl, hl2, hs2, bx⟩
  have B2 := B0.chg (Chg.of_later (ks := []) hl2) (by simp)
  have hl02 := l0.trans hl2
  rw [s0] at bx hs2 ⊢
  repeat' (first | (simp (disch := omega) only [push_cast, ↓reduceIte, zA, zG, zB, zH, zI, zC, zJ, zK, zL, zD, zE, zF, zM, zN, zO, zP, zQ, reduceCtorEq, not_true_eq_false, not_false_eq_true]) | (first | refine vIfE_of ?_ ?_ | refine vIfD_of ?_ ?_ | refine vIfQ_of ?_ ?_ | refine vIfV_of ?_ ?_) <;> intro _ | refine And.intro (by omega) ?_ | refine drawn_q ?_ | fail)
  refine rngC_of hb98 ?_
  rintro D L rec hrec hD hL hyl
  have hDe : D = w.heap.size + 2 := by omega
  have hLe : L = w.heap.size + 3 := by omega
  have hrL : ((w2.alloc (.deferred (some []))).alloc (rec .ready .normal)).heap[L]? = some (rec .ready .normal) := by
    have := World.alloc_heap_new (w2.alloc (.deferred (some []))) (rec .ready .normal)
    rw [World.size_alloc] at this
    rw [hL]; exact this
  have hrD : ((w2.alloc (.deferred (some []))).alloc (rec .ready .normal)).heap[D]? = some (.deferred (some [])) := by
    rw [hD]
    exact heap_later (World.alloc_heap_new w2 _) (later_alloc _ _)
  have hl3 := later_two w2 (.deferred (some [])) (rec .ready .normal)
  generalize (w2.alloc (.deferred (some []))).alloc (rec .ready .normal) = w3 at *
  have hl03 := hl02.trans hl3
  have bx3 := bx.chg (Chg.of_later (ks := []) hl3) (by simp)
  have B3 := B2.chg (Chg.of_later (ks := []) hl3) (by simp)
  rw [hDe] at hrD
  have hstc := vals_c L (w.heap.size + 1) (.slice o l.length c) l (fun i w' => CpS w w' L (rec .ready .normal) (.slice o l.length c) l i) w3
    ⟨by omega, hrL, hrD, hl03, bx3, _, [], B3, OwnR.nil _ _ _, rfl, by simp⟩ (by omega) (fun i w1 w2 h1 h2 => h1.step h2) (fun i w1 h1 => ⟨h.later h1.later, h1.box, fun e he => (hes e he).1.later h1.later⟩) ?_
  · refine hstc.mono ?_
    rintro _ w4 hS
    have hP := hS.put (hrec _ _) hLe (rec .exhausted .normal)
    refine .inl ⟨hS.rec_, ?_⟩
    obtain ⟨_, _, p2, p3, _, ov, es, p5, p6, p7, p8⟩ := hP
    have c1 : (w4.putObj L (rec .exhausted .normal)).cell? ⟨w.heap.size, 0, none⟩ = some ov := p5.cell 0
    have g2 := chg_putObj (w4.putObj L (rec .exhausted .normal)) (L := w.heap.size + 2) (ks := [w.heap.size + 2]) (by simp) (.deferred none)
    have q6 := own_obj p6 p2 rfl g2
    have q8 := fun e he => (p8 e he).obj p2 rfl g2
    have q3 := g2.later p3 (by simp)
    rw [List.take_length] at p7
    subst hDe
    repeat' (first | (simp (disch := omega) only [push_cast, ↓reduceIte, zA, zG, zB, zH, zI, zC, zJ, zK, zL, zD, zE, zF, zM, zN, zO, zP, zQ, reduceCtorEq, not_true_eq_false, not_false_eq_true, c1]) | (first | refine vIfE_of ?_ ?_ | refine vIfD_of ?_ ?_ | refine vIfQ_of ?_ ?_ | refine vIfV_of ?_ ?_) <;> intro _ | refine And.intro (by omega) ?_ | refine drawn_q ?_ | fail)
    exact ⟨⟨es, q6, p7, q8⟩, q3⟩
  · rintro i hi u1 h1
    refine hyl _ u1 _ ?_
    unfold Rnd
    refine ⟨h1.rec_, rfl, ?_⟩
    obtain ⟨he, hd, ha⟩ := hes l[i] (List.getElem_mem _)
    have htk : (l.take (i + 1)).map El.abs = (l.take i).map El.abs ++ [l[i].abs] := by rw [take_snoc l i hi, List.map_append]; rfl
    generalize l[i] = e at *
    unfold elV
    repeat' (first | (simp (disch := omega) only [push_cast, ↓reduceIte, zA, zG, zB, zH, zI, zC, zJ, zK, zL, zD, zE, zF, zM, zN, zO, zP, zQ, reduceCtorEq, not_true_eq_false, not_false_eq_true]) | (first | refine vIfE_of ?_ ?_ | refine vIfD_of ?_ ?_ | refine vIfQ_of ?_ ?_ | refine vIfV_of ?_ ?_) <;> intro _ | refine And.intro (by omega) ?_ | refine drawn_q ?_ | fail)
    refine vStore_new rfl rfl (elC_one he) ?_
    have l2 := later_alloc u1 (.cells #[.int .i64 e.t, e.dv, .int .i64 e.n, e.av] 35)
    have Ba := Blk.new u1 #[.int .i64 e.t, e.dv, .int .i64 e.n, e.av] 35
    have hu1L : L < u1.heap.size := (Array.getElem?_eq_some_iff.1 h1.rec_).1
    have h2 := h1.step l2
    generalize hka : u1.heap.size = ka at *
    generalize u1.alloc (.cells #[.int .i64 e.t, e.dv, .int .i64 e.n, e.av] 35) = u2 at *
    have r1 := h2.rec_
    repeat' (first | (simp (disch := omega) only [push_cast, ↓reduceIte, zA, zG, zB, zH, zI, zC, zJ, zK, zL, zD, zE, zF, zM, zN, zO, zP, zQ, reduceCtorEq, not_true_eq_false, not_false_eq_true]) | (first | refine vIfE_of ?_ ?_ | refine vIfD_of ?_ ?_ | refine vIfQ_of ?_ ?_ | refine vIfV_of ?_ ?_) <;> intro _ | refine And.intro (by omega) ?_ | refine drawn_q ?_ | fail)
    have h3 := h2.put (hrec _ _) hLe (rec .busy .normal)
    have qa := Ba.chg (chg_putObj u2 (L := L) (ks := [L]) (by simp) (rec .busy .normal)) (by simp; omega)
    generalize u2.putObj L (rec .busy .normal) = u3 at *
    obtain ⟨g0, g1, g2, g3, g4, ov, es, g5, g6, g7, g8⟩ := h3
    have c0 : u3.cell? ⟨w.heap.size, 0, none⟩ = some ov := g5.cell 0
    have ca : cellsAt u3 ⟨ka, 0, none⟩ 4 = some [.int .i64 e.t, e.dv, .int .i64 e.n, e.av] := Blk.cellsAt (l := [.int .i64 e.t, e.dv, .int .i64 e.n, e.av]) qa
    have hsz := g3.size
    have he3 := he.later g3
    repeat' (first | (simp (disch := omega) only [push_cast, ↓reduceIte, zA, zG, zB, zH, zI, zC, zJ, zK, zL, zD, zE, zF, zM, zN, zO, zP, zQ, reduceCtorEq, not_true_eq_false, not_false_eq_true]) | (first | refine vIfE_of ?_ ?_ | refine vIfD_of ?_ ?_ | refine vIfQ_of ?_ ?_ | refine vIfV_of ?_ ?_) <;> intro _ | refine And.intro (by omega) ?_ | fail)
    refine drawnR_k 4 ?_
    repeat' (first | (simp (disch := omega) only [push_cast, ↓reduceIte, zA, zG, zB, zH, zI, zC, zJ, zK, zL, zD, zE, zF, zM, zN, zO, zP, zQ, reduceCtorEq, not_true_eq_false, not_false_eq_true, c0, ca]) | (first | refine vIfE_of ?_ ?_ | refine vIfD_of ?_ ?_ | refine vIfQ_of ?_ ?_ | refine vIfV_of ?_ ?_) <;> intro _ | refine And.intro (by omega) ?_ | fail)
    refine NFn.of hb69 (OneV w.heap.size e) (stb_oneV _ _ _) (fun w' hl => (own_c e w' (he3.later hl) hd ha).mono ?_) ?_
    · rintro v w'' ⟨x, y, rfl, hE, hl'⟩
      exact ⟨⟨_, rfl, rfl, hE.base (Nat.le_trans hsz hl.size)⟩, hl'⟩
    repeat' (first | (simp (disch := omega) only [push_cast, ↓reduceIte, zA, zG, zB, zH, zI, zC, zJ, zK, zL, zD, zE, zF, zM, zN, zO, zP, zQ, reduceCtorEq, not_true_eq_false, not_false_eq_true]) | (first | refine vIfE_of ?_ ?_ | refine vIfD_of ?_ ?_ | refine vIfQ_of ?_ ?_ | refine vIfV_of ?_ ?_) <;> intro _ | refine And.intro (by omega) ?_ | fail)
    refine nR_build (OneR w.heap.size e) (stb_oneR _ _ _) (fun σ' w' hl hp => ?_) ?_
    · have h10 : OneV w.heap.size e (σ' 10) w' := hp.1
      obtain ⟨e', hv, hab, hE⟩ := h10
      have hv' : σ' 10 = .agg #[.int .i64 e'.t, e'.dv, .int .i64 e'.n, e'.av] := hv
      repeat' (first | (simp (disch := omega) only [push_cast, ↓reduceIte, zA, zG, zB, zH, zI, zC, zJ, zK, zL, zD, zE, zF, zM, zN, zO, zP, zQ, reduceCtorEq, not_true_eq_false, not_false_eq_true, hv']) | (first | refine vIfE_of ?_ ?_ | refine vIfD_of ?_ ?_ | refine vIfQ_of ?_ ?_ | refine vIfV_of ?_ ?_) <;> intro _ | refine And.intro (by omega) ?_ | fail)
      exact ⟨later_alloc _ _, e', w'.heap.size, rfl, hab, hE.later (later_alloc _ _), Blk.new _ _ _⟩
    repeat' (first | (simp (disch := omega) only [push_cast, ↓reduceIte, zA, zG, zB, zH, zI, zC, zJ, zK, zL, zD, zE, zF, zM, zN, zO, zP, zQ, reduceCtorEq, not_true_eq_false, not_false_eq_true]) | (first | refine vIfE_of ?_ ?_ | refine vIfD_of ?_ ?_ | refine vIfQ_of ?_ ?_ | refine vIfV_of ?_ ?_) <;> intro _ | refine And.intro (by omega) ?_ | fail)
    rintro w4 l4 x ⟨e', b, rfl, hab, hE, hb⟩ y _
    have k1 := heap_later g1 l4
    have k2 := heap_later g2 l4
    have k3 := g3.trans l4
    have k4 := g4.chg (Chg.of_later (ks := []) l4) (by simp)
    have k5 := g5.chg (Chg.of_later (ks := []) l4) (by simp)
    have k6 := g6.later l4
    have k8 := fun e he => (g8 e he).later l4
    have hesl : es.length = i := by
      have := congrArg List.length g7
      simp only [List.length_map, List.length_take] at this
      omega
    refine vAppend_e (B := w.heap.size) (l := es) (r := [e']) k6 (RecS.lit1 (elC_len e') hb) (by intro z hz; rw [List.mem_singleton.1 hz]; exact hE.is) (by simp; omega) k3.size ?_
    intro v' u5 ho hg _
    have v1 := grown_obj k6 hg k1 (not_cells (hrec _ _) _)
    have v2 := grown_obj k6 hg k2 (not_cells rfl _)
    have v4 : Blk u5 _ _ 25 := grown_obj k6 hg k4 (fun cs h => by simp at h)
    have v5 : Blk u5 w.heap.size _ 25 := grown_obj k6 hg k5 (fun cs h => by simp at h)
    have v3 := k3.appended k6 (Nat.le_refl _) hg
    have v8 : ∀ z ∈ es ++ [e'], EO u5 w.heap.size z := by
      intro z hz
      rcases List.mem_append.1 hz with hz | hz
      · exact (k8 z hz).grown k6 hg
      · rw [List.mem_singleton.1 hz]; exact hE.grown k6 hg
    obtain ⟨o2, c2, hv2, _⟩ := RecS.slice (OwnR.s ho)
    subst hv2
    have hfz := v5.frozen 0
    have hce : ∃ y, u5.cell? ⟨w.heap.size, 0, none⟩ = some y := ⟨_, v5.cell 0⟩
    have gc := chg_setCell (i := 0) u5 (ks := [w.heap.size]) (k := w.heap.size) (by simp) (.slice o2 (es ++ [e']).length c2)
    have z5 := v5.set 0 (.slice o2 (es ++ [e']).length c2)
    repeat' (first | (simp (disch := omega) only [push_cast, ↓reduceIte, zA, zG, zB, zH, zI, zC, zJ, zK, zL, zD, zE, zF, zM, zN, zO, zP, zQ, reduceCtorEq, not_true_eq_false, not_false_eq_true, hfz, hce]) | (first | refine vIfE_of ?_ ?_ | refine vIfD_of ?_ ?_ | refine vIfQ_of ?_ ?_ | refine vIfV_of ?_ ?_) <;> intro _ | refine And.intro (by omega) ?_ | refine drawn_q ?_ | fail)
    have z1 := heap_chg v1 gc (by simp; omega)
    have z2 := heap_chg v2 gc (by simp)
    have z3 := gc.later v3 (by simp)
    have z4 := v4.chg gc (by simp)
    have z6 := own_chg_ty ho v5 (by decide) gc
    have z8 := fun z hz => (v8 z hz).cellOut v5 gc
    generalize u5.setCell ⟨w.heap.size, 0, none⟩ (.slice o2 (es ++ [e']).length c2) = u6 at *
    have hS : CpS w u6 L (rec .busy .normal) (.slice o l.length c) l (i + 1) := ⟨by omega, z1, z2, z3, z4, _, es ++ [e'], z5, z6, by rw [List.map_append, g7, htk, List.map_singleton, hab], z8⟩
    have hP := hS.put (hrec _ _) hLe (rec .ready .normal)
    repeat' (first | (simp (disch := omega) only [push_cast, ↓reduceIte, zA, zG, zB, zH, zI, zC, zJ, zK, zL, zD, zE, zF, zM, zN, zO, zP, zQ, reduceCtorEq, not_true_eq_false, not_false_eq_true]) | (first | refine vIfE_of ?_ ?_ | refine vIfD_of ?_ ?_ | refine vIfQ_of ?_ ?_ | refine vIfV_of ?_ ?_) <;> intro _ | refine And.intro (by omega) ?_ | refine drawn_q ?_ | fail)
    first | exact ⟨z1, rfl, hP⟩ | exact ⟨rfl, hP⟩ | exact hP
end Go.Proofs.Ythihbgpaoldbjaa
end
section
namespace Go.Fold
open Go.Key Go.Stab Go.Proofs.Ythihbgpaoldbjaa
abbrev R := Int × List ByteArray × Int × List Ag
def rcmp (x y : R) : Int := ckey x.1 x.2.1 y.1 y.2.1
def rlt (x y : R) : Bool := decide (rcmp x y < 0)
theorem rlt_swo : Swo rlt := swo_key (fun r : R => r.1) (fun r => r.2.1)
abbrev Same (x y : R) : Prop := x.1 = y.1 ∧ x.2.1 = y.2.1
theorem rlt_l {x y z : R} (h : Same x y) : rlt x z = rlt y z := by unfold rlt rcmp; rw [h.1, h.2]
theorem rlt_r {x y z : R} (h : Same x y) : rlt z x = rlt z y := by unfold rlt rcmp; rw [h.1, h.2]
theorem eqv_same {x y : R} : eqv rlt x y = true ↔ Same x y := by
  have h := ckey_is x.1 x.2.1 y.1 y.2.1
  have e : eqv rlt x y = (!decide (ckey x.1 x.2.1 y.1 y.2.1 < 0) && !decide (ckey y.1 y.2.1 x.1 x.2.1 < 0)) := rfl
  rw [e]
  rcases h with ⟨h1, h2, h3⟩ | ⟨h1, h2, h3⟩ | ⟨h1, h2, h3⟩
  · rw [h1, h2]
    exact ⟨fun h => (by simp at h), fun h => absurd h h3⟩
  · rw [h1, h2]
    exact ⟨fun _ => h3, fun _ => rfl⟩
  · rw [h1, h2]
    exact ⟨fun h => (by simp at h), fun h => absurd h h3⟩
theorem cmp_zero {x y : R} : rcmp x y = 0 ↔ Same x y := by
  have h := ckey_is x.1 x.2.1 y.1 y.2.1
  unfold rcmp
  rcases h with ⟨h1, h2, h3⟩ | ⟨h1, h2, h3⟩ | ⟨h1, h2, h3⟩
  · rw [h1]
    exact ⟨fun h => (by cases h), fun h => absurd h h3⟩
  · rw [h1]
    exact ⟨fun _ => h3, fun _ => rfl⟩
  · rw [h1]
    exact ⟨fun h => (by cases h), fun h => absurd h h3⟩
def jaggs : List Ag → List Ag → Option (List Ag)
  | [], _ => some []
  | _ :: _, [] => none
  | a :: x, b :: y => if Fi (a.1 + b.1) then (jaggs x y).map (ajn a b :: ·) else none
/-- Two rows of one key, joined. -/
def jn (x y : R) : Option R := if 1048576 < x.2.2.1 + y.2.2.1 then none else (jaggs x.2.2.2 y.2.2.2).map fun l => (x.1, x.2.1, x.2.2.1 + y.2.2.1, l)
theorem jn_key {x y z : R} (h : jn x y = some z) : Same x z := by
  unfold jn at h
  split at h
  · cases h
  · obtain ⟨l, _, rfl⟩ := Option.map_eq_some_iff.1 h
    exact ⟨rfl, rfl⟩
def jfold : List R → Option R
  | [] => none
  | r :: c => c.foldl (fun o s => o.bind (jn · s)) (some r)
theorem jfold_snoc {c : List R} (h : c ≠ []) (r : R) : jfold (c ++ [r]) = (jfold c).bind (jn · r) := by
  cases c with
  | nil => exact absurd rfl h
  | cons a c => simp [jfold, List.foldl_append]
theorem foldl_none (c : List R) : c.foldl (fun o s => o.bind (jn · s)) (none : Option R) = none := by
  induction c with
  | nil => rfl
  | cons a c ih => simpa using ih
theorem jfold_none {c : List R} (h : c ≠ []) (hn : jfold c = none) (d : List R) : jfold (c ++ d) = none := by
  cases c with
  | nil => exact absurd rfl h
  | cons a c =>
    simp only [jfold, List.cons_append, List.foldl_append] at hn ⊢
    rw [hn, foldl_none]
/-- Some key's rows cannot be joined. -/
def Bad (l : List R) : Prop := ∃ x ∈ l, jfold (l.filter (eqv rlt x)) = none
structure F (l out : List R) : Prop where
  srt : out.Pairwise fun a b => rlt a b = true
  nil : ∀ x, l.filter (eqv rlt x) = [] → out.filter (eqv rlt x) = []
  one : ∀ x, l.filter (eqv rlt x) ≠ [] → ∃ z, jfold (l.filter (eqv rlt x)) = some z ∧ out.filter (eqv rlt x) = [z]
theorem eqv_refl (x : R) : eqv rlt x x = true := eqv_same.2 ⟨rfl, rfl⟩
theorem mem_ne {l : List R} {x : R} (h : x ∈ l) : l.filter (eqv rlt x) ≠ [] := by
  intro he
  have : x ∈ l.filter (eqv rlt x) := List.mem_filter.2 ⟨h, eqv_refl x⟩
  rw [he] at this; cases this
theorem F.ok {l out : List R} (h : F l out) : ¬ Bad l := by
  rintro ⟨x, hx, hn⟩
  obtain ⟨z, hz, _⟩ := h.one x (mem_ne hx)
  rw [hn] at hz; cases hz
theorem Bad.more {l : List R} (h : Bad l) (d : List R) : Bad (l ++ d) := by
  obtain ⟨x, hx, hn⟩ := h
  exact ⟨x, List.mem_append_left _ hx, by rw [List.filter_append]; exact jfold_none (mem_ne hx) hn _⟩
theorem F.start : F [] [] := ⟨List.Pairwise.nil, fun _ _ => rfl, fun _ h => absurd rfl h⟩
/-- A row of a key that is there. -/
theorem F.join {l A B : List R} {b r : R} (h : F l (A ++ b :: B)) (hs : Same b r) : (jn b r = none → Bad (l ++ [r])) ∧ ∀ x, jn b r = some x → F (l ++ [r]) (A ++ x :: B) := by
  have key : ∀ x, eqv rlt x r = true → A.filter (eqv rlt x) = [] ∧ B.filter (eqv rlt x) = [] ∧ l.filter (eqv rlt x) ≠ [] ∧ jfold (l.filter (eqv rlt x)) = some b := by
    intro x hx
    have hxr := eqv_same.1 hx
    have hb : eqv rlt x b = true := eqv_same.2 ⟨hxr.1.trans hs.1.symm, hxr.2.trans hs.2.symm⟩
    have hne : l.filter (eqv rlt x) ≠ [] := by
      intro he
      have := h.nil x he
      rw [List.filter_append, List.filter_cons_of_pos hb] at this
      simp at this
    obtain ⟨z, hz, hf⟩ := h.one x hne
    rw [List.filter_append, List.filter_cons_of_pos hb] at hf
    have hA : A.filter (eqv rlt x) = [] := by
      cases hA : A.filter (eqv rlt x) with
      | nil => rfl
      | cons a T => rw [hA] at hf; simp at hf
    rw [hA, List.nil_append] at hf
    obtain ⟨e1, e2⟩ := List.cons.inj hf
    exact ⟨hA, e2, hne, by rw [hz, e1]⟩
  constructor
  · intro hn
    obtain ⟨_, _, hne, hj⟩ := key r (eqv_refl r)
    refine ⟨r, by simp, ?_⟩
    rw [List.filter_append, List.filter_cons_of_pos (eqv_refl r), List.filter_nil, jfold_snoc hne, hj]
    exact hn
  · intro x' hx'
    have hk := jn_key hx'
    refine ⟨?_, fun x hx => ?_, fun x hx => ?_⟩
    · have := h.srt
      rw [List.pairwise_append, List.pairwise_cons] at this ⊢
      obtain ⟨p1, ⟨p2, p3⟩, p4⟩ := this
      refine ⟨p1, ⟨fun c hc => by rw [← rlt_l hk]; exact p2 c hc, p3⟩, fun a ha c hc => ?_⟩
      rcases List.mem_cons.1 hc with rfl | hc
      · rw [← rlt_r hk]; exact p4 a ha b (by simp)
      · exact p4 a ha c (List.mem_cons_of_mem _ hc)
    · rw [List.filter_append] at hx
      obtain ⟨h1, h2⟩ := List.append_eq_nil_iff.1 hx
      have hxr : ¬ eqv rlt x r = true := fun hh => by rw [List.filter_cons_of_pos hh] at h2; cases h2
      have hxx : ¬ eqv rlt x x' = true := fun hh => hxr (eqv_same.2 ⟨(eqv_same.1 hh).1.trans (hk.1.symm.trans hs.1), (eqv_same.1 hh).2.trans (hk.2.symm.trans hs.2)⟩)
      have hxb : ¬ eqv rlt x b = true := fun hh => hxr (eqv_same.2 ⟨(eqv_same.1 hh).1.trans hs.1, (eqv_same.1 hh).2.trans hs.2⟩)
      have := h.nil x h1
      rw [List.filter_append, List.filter_cons_of_neg hxb] at this
      rw [List.filter_append, List.filter_cons_of_neg hxx]
      exact this
    · by_cases hxr : eqv rlt x r = true
      · obtain ⟨hA, hB, hne, hj⟩ := key x hxr
        have hxx : eqv rlt x x' = true := eqv_same.2 ⟨(eqv_same.1 hxr).1.trans (hs.1.symm.trans hk.1), (eqv_same.1 hxr).2.trans (hs.2.symm.trans hk.2)⟩
        refine ⟨x', ?_, ?_⟩
        · rw [List.filter_append, List.filter_cons_of_pos hxr, List.filter_nil, jfold_snoc hne, hj]
          exact hx'
        · rw [List.filter_append, List.filter_cons_of_pos hxx, hA, hB]; rfl
      · have hxx : ¬ eqv rlt x x' = true := fun hh => hxr (eqv_same.2 ⟨(eqv_same.1 hh).1.trans (hk.1.symm.trans hs.1), (eqv_same.1 hh).2.trans (hk.2.symm.trans hs.2)⟩)
        have hxb : ¬ eqv rlt x b = true := fun hh => hxr (eqv_same.2 ⟨(eqv_same.1 hh).1.trans hs.1, (eqv_same.1 hh).2.trans hs.2⟩)
        rw [List.filter_append, List.filter_cons_of_neg hxr, List.filter_nil, List.append_nil] at hx ⊢
        obtain ⟨z, hz, hf⟩ := h.one x hx
        rw [List.filter_append, List.filter_cons_of_neg hxb] at hf
        exact ⟨z, hz, by rw [List.filter_append, List.filter_cons_of_neg hxx]; exact hf⟩
/-- A row of a new key. -/
theorem F.add {l A B : List R} {r : R} (h : F l (A ++ B)) (hA : ∀ a ∈ A, rlt a r = true) (hB : ∀ b ∈ B, rlt r b = true) : F (l ++ [r]) (A ++ r :: B) := by
  have no : ∀ x c, eqv rlt x r = true → (rlt c r = true ∨ rlt r c = true) → ¬ eqv rlt x c = true := by
    intro x c hx hc hh
    have h1 := eqv_same.1 hx
    have h2 := eqv_same.1 hh
    have hs : Same c r := ⟨h2.1.symm.trans h1.1, h2.2.symm.trans h1.2⟩
    rcases hc with hc | hc
    · rw [rlt_l hs, rlt_swo.irr] at hc; cases hc
    · rw [rlt_r hs, rlt_swo.irr] at hc; cases hc
  refine ⟨?_, fun x hx => ?_, fun x hx => ?_⟩
  · have := h.srt
    rw [List.pairwise_append] at this ⊢
    obtain ⟨p1, p2, p3⟩ := this
    refine ⟨p1, List.pairwise_cons.2 ⟨hB, p2⟩, fun a ha c hc => ?_⟩
    rcases List.mem_cons.1 hc with rfl | hc
    · exact hA a ha
    · exact p3 a ha c hc
  · rw [List.filter_append] at hx
    obtain ⟨h1, h2⟩ := List.append_eq_nil_iff.1 hx
    have hxr : ¬ eqv rlt x r = true := fun hh => by rw [List.filter_cons_of_pos hh] at h2; cases h2
    have := h.nil x h1
    rw [List.filter_append] at this ⊢
    rw [List.filter_cons_of_neg hxr]
    exact this
  · by_cases hxr : eqv rlt x r = true
    · have fA : A.filter (eqv rlt x) = [] := List.filter_eq_nil_iff.2 fun a ha => no x a hxr (.inl (hA a ha))
      have fB : B.filter (eqv rlt x) = [] := List.filter_eq_nil_iff.2 fun a ha => no x a hxr (.inr (hB a ha))
      have hl : l.filter (eqv rlt x) = [] := by
        apply Classical.byContradiction
        intro hne
        obtain ⟨z, _, hf⟩ := h.one x hne
        rw [List.filter_append, fA, fB] at hf
        cases hf
      refine ⟨r, ?_, ?_⟩
      · rw [List.filter_append, hl, List.filter_cons_of_pos hxr]; rfl
      · rw [List.filter_append, fA, List.filter_cons_of_pos hxr, fB]; rfl
    · rw [List.filter_append, List.filter_cons_of_neg hxr, List.filter_nil, List.append_nil] at hx ⊢
      obtain ⟨z, hz, hf⟩ := h.one x hx
      rw [List.filter_append] at hf
      exact ⟨z, hz, by rw [List.filter_append, List.filter_cons_of_neg hxr]; exact hf⟩
/-- What either Fold answers. -/
def Res (l : List R) : Option (List R) → Prop
  | none => Bad l
  | some out => F l out
theorem Res.one {l l' : List R} (hs : Stb rlt l l') {o o' : Option (List R)} (h : Res l o) (h' : Res l' o') : o' = o := by
  have hb : Bad l ↔ Bad l' := by
    constructor
    · rintro ⟨x, hx, hn⟩; exact ⟨x, (hs.mem rlt_swo x).2 hx, by rw [hs.2]; exact hn⟩
    · rintro ⟨x, hx, hn⟩; exact ⟨x, (hs.mem rlt_swo x).1 hx, by rw [← hs.2]; exact hn⟩
  cases o with
  | none =>
    cases o' with
    | none => rfl
    | some out' => exact absurd (hb.1 h) (F.ok h')
  | some out =>
    cases o' with
    | none => exact absurd (hb.2 h') (F.ok h)
    | some out' =>
      have h : F l out := h
      have h' : F l' out' := h'
      congr 1
      refine one_way rlt_swo (List.Pairwise.imp (fun hab => rlt_swo.asym _ _ hab) h.srt) (List.Pairwise.imp (fun hab => rlt_swo.asym _ _ hab) h'.srt) fun x => ?_
      by_cases hx : l.filter (eqv rlt x) = []
      · rw [h.nil x hx, h'.nil x (by rw [hs.2]; exact hx)]
      · obtain ⟨z, hz, hf⟩ := h.one x hx
        obtain ⟨z', hz', hf'⟩ := h'.one x (by rw [hs.2]; exact hx)
        rw [hs.2, hz] at hz'
        cases hz'
        rw [hf, hf']
end Go.Fold
end
section
namespace Go.Fold
open Go.Proofs.Ythihbgpaoldbjaa
theorem jaggs_snoc : ∀ (x y : List Ag) (a b : Ag), x.length = y.length → jaggs (x ++ [a]) (y ++ [b]) = (jaggs x y).bind fun l => if Fi (a.1 + b.1) then some (l ++ [ajn a b]) else none
  | [], [], a, b, _ => by
    simp only [List.nil_append, jaggs]
    split <;> simp
  | [], _ :: _, _, _, h => by simp at h
  | _ :: _, [], _, _, h => by simp at h
  | c :: x, d :: y, a, b, h => by
    have ih := jaggs_snoc x y a b (by simpa using h)
    simp only [List.cons_append, jaggs, ih]
    by_cases hc : Fi (c.1 + d.1)
    · rw [if_pos hc, if_pos hc]
      cases jaggs x y with
      | none => rfl
      | some l =>
        simp only [Option.bind_some, Option.map_some]
        by_cases hf : Fi (a.1 + b.1)
        · rw [if_pos hf, if_pos hf]; rfl
        · rw [if_neg hf, if_neg hf]; rfl
    · rw [if_neg hc, if_neg hc]; rfl
theorem jaggs_none : ∀ (x y : List Ag) (x' y' : List Ag), x.length = y.length → jaggs x y = none → jaggs (x ++ x') (y ++ y') = none
  | [], [], _, _, _, h => by simp [jaggs] at h
  | [], _ :: _, _, _, h, _ => by simp at h
  | _ :: _, [], _, _, h, _ => by simp at h
  | c :: x, d :: y, x', y', h, hn => by
    simp only [List.cons_append, jaggs] at hn ⊢
    by_cases hc : Fi (c.1 + d.1)
    · rw [if_pos hc] at hn ⊢
      have := jaggs_none x y x' y' (by simpa using h) (by simpa using hn)
      rw [this]; rfl
    · rw [if_neg hc]
theorem jaggs_step {x y : List Ag} (h : x.length = y.length) {i : Nat} (hi : i < x.length) (hj : i < y.length) {l : List Ag} (hl : jaggs (x.take i) (y.take i) = some l) :
    (Fi (x[i].1 + y[i].1) → jaggs (x.take (i + 1)) (y.take (i + 1)) = some (l ++ [ajn x[i] y[i]])) ∧ (¬ Fi (x[i].1 + y[i].1) → jaggs x y = none) := by
  have e : jaggs (x.take (i + 1)) (y.take (i + 1)) = if Fi (x[i].1 + y[i].1) then some (l ++ [ajn x[i] y[i]]) else none := by
    rw [Go.Vc.take_snoc x i hi, Go.Vc.take_snoc y i hj, jaggs_snoc _ _ _ _ (by simp; omega), hl]; rfl
  constructor
  · intro hf; rw [e, if_pos hf]
  · intro hf
    rw [if_neg hf] at e
    have := jaggs_none _ _ (x.drop (i + 1)) (y.drop (i + 1)) (by simp; omega) e
    rwa [List.take_append_drop, List.take_append_drop] at this
theorem jaggs_len : ∀ (x y l : List Ag), x.length = y.length → jaggs x y = some l → l.length = x.length
  | [], _, l, _, h => by simp [jaggs] at h; simp [h]
  | _ :: _, [], _, h, _ => by simp at h
  | c :: x, d :: y, l, hl, h => by
    simp only [jaggs] at h
    by_cases hc : Fi (c.1 + d.1)
    · rw [if_pos hc] at h
      obtain ⟨m, hm, rfl⟩ := Option.map_eq_some_iff.1 h
      simp [jaggs_len x y m (by simpa using hl) hm]
    · rw [if_neg hc] at h; cases h
theorem jaggs_rt : ∀ (x y l : List Ag), (∀ a ∈ x, ARt a) → (∀ a ∈ y, ARt a) → jaggs x y = some l → ∀ a ∈ l, ARt a
  | [], _, l, _, _, h => by simp [jaggs] at h; simp [h]
  | _ :: _, [], l, _, _, h => by simp [jaggs] at h
  | c :: x, d :: y, l, hx, hy, h => by
    simp only [jaggs] at h
    by_cases hc : Fi (c.1 + d.1)
    · rw [if_pos hc] at h
      obtain ⟨m, hm, rfl⟩ := Option.map_eq_some_iff.1 h
      intro a ha
      rcases List.mem_cons.1 ha with rfl | ha
      · exact ajn_rt (hx c (by simp)) (hy d (by simp)) hc
      · exact jaggs_rt x y m (fun a ha => hx a (by simp [ha])) (fun a ha => hy a (by simp [ha])) hm a ha
    · rw [if_neg hc] at h; cases h
end Go.Fold
namespace Go.Proofs.Ythihbgpaoldbjaa
open Go.Vc Go.Key Go.Stab Go.Fold
set_option maxRecDepth 100000
/-- What either Join answers. -/
def JR (x y z : El) (e : Int) : Prop := (ecmp x y ≠ 0 ∧ e = 131 ∧ z.abs = (0, [], 0, [])) ∨ (ecmp x y = 0 ∧ jn x.abs y.abs = none ∧ e = 121 ∧ z.abs = (0, [], 0, [])) ∨ (ecmp x y = 0 ∧ e = 0 ∧ jn x.abs y.abs = some z.abs)
theorem jn_abs (x y : El) : jn x.abs y.abs = if 1048576 < x.n + y.n then none else (jaggs x.a y.a).map fun l => (x.t, x.d, x.n + y.n, l) := rfl
/-- A row right enough to be joined. -/
structure Rr (e : El) : Prop where
  n1 : 1 ≤ e.n
  n2 : e.n ≤ 1048576
  ag : ∀ a ∈ e.a, ARt a
  dl : e.d.length ≤ 1000
  al : e.a.length ≤ 1000
theorem JR.rr {x y z : El} {q : R} (hx : Rr x) (hy : Rr y) (hl : x.a.length = y.a.length) (h : jn x.abs y.abs = some z.abs) : Rr z ∧ z.d.length = x.d.length ∧ z.a.length = x.a.length := by
  rw [jn_abs] at h
  split at h
  · cases h
  · rename_i hn
    obtain ⟨l, hj, he⟩ := Option.map_eq_some_iff.1 h
    unfold El.abs at he
    simp only [Prod.mk.injEq] at he
    obtain ⟨e1, e2, e3, e4⟩ := he
    have := jaggs_len _ _ _ hl hj
    have n1 := hx.n1
    have n2 := hy.n1
    refine ⟨⟨by omega, by omega, by rw [← e4]; exact jaggs_rt _ _ _ hx.ag hy.ag hj, by rw [← e2]; exact hx.dl, by rw [← e4, this]; exact hx.al⟩, by rw [← e2], by rw [← e4, this]⟩
end Go.Proofs.Ythihbgpaoldbjaa
end
section
set_option linter.unusedSimpArgs false
namespace Go.Vc
/-- A struct put together, of what hangs on the world. -/
theorem nR_bld {P : Program} {t : TypeId} {ps : Array (Nat × Operand)} {ty : TypeId} {rs : List Nat} {Ns : NS} {σ : Env} {w : World} {Kv : Value → Prop} {Kn : (Value → World → Prop) → Prop} (V' : Value → World → Prop) (hV' : Stb w V')
    (h : ∀ σ' w', Later w w' → psis Ns σ w' σ' rs → vBuild P t (ps.map fun (i, x) => (i, ev σ' x)) (fun v w'' => Later w' w'' ∧ V' v w'') w') (hk : Kn V') : nR P (.build t ps) ty rs Ns σ w Kv Kn :=
  .inr ⟨V', hV', fun σ' w' hl hp => nUp_val (h σ' w' hl hp), hk⟩
/-- A new block's place. -/
def PtV (w0 : World) (e : TypeId) (cs : Array Value) (v : Value) (w : World) : Prop := ∃ b, v = .pointer (some ⟨b, 0, none⟩) ∧ w0.heap.size ≤ b ∧ Blk w b cs e
theorem stb_pt (w0 w1 : World) (e : TypeId) (cs : Array Value) : Stb w1 (PtV w0 e cs) := by
  rintro v w w' _ hl ⟨b, h1, h2, h3⟩
  exact ⟨b, h1, h2, h3.chg (Chg.of_later (ks := []) hl) (by simp)⟩
end Go.Vc
namespace Go.Proofs.Ythihbgpaoldbjaa
open Go.Vc Go.Key Go.Stab Go.Fold
set_option maxRecDepth 100000
abbrev z0 : El := ⟨0, [], 0, [], .slice none 0 0, .slice none 0 0⟩
theorem EO.zero (w : World) (B : Nat) : EO w B z0 := ⟨own_nil w _ _ 1, OwnR.nil w _ _⟩
def RowB (B : Nat) (t n : Int) (d : List ByteArray) (v : Value) (w : World) : Prop := ∃ u, v = .agg #[.int .i64 t, u, .int .i64 n, .slice none 0 0] ∧ OwnS w B u d
theorem stb_rowB (w0 : World) (B : Nat) (t n : Int) (d : List ByteArray) : Stb w0 (RowB B t n d) := by
  rintro v w w' _ hl ⟨u, h1, h2⟩
  exact ⟨u, h1, own_later h2 hl⟩
theorem ownS_grown {w w' : World} {B B' : Nat} {u v : Value} {d : List ByteArray} {es : List Ag} (h : OwnS w B u d) (hv : OwnA w B' v es) (g : w.grownBy w' v.ownBlock) : OwnS w' B u d := by
  have gc := Chg.of_grown g
  obtain ⟨o, c, rfl, _⟩ := RecS.slice (OwnR.s hv)
  cases o with
  | none => exact own_later h ⟨gc.os, gc.tape, gc.output, gc.size, fun k hk => gc.block k hk (by simp [Value.ownBlock])⟩
  | some a =>
    obtain ⟨k, rfl, _, _, ⟨cs, hb⟩, _⟩ := own_writes hv
    exact own_chg_ty h hb (by decide) gc
/-- What holds between the rounds of Join. -/
structure JS (w w' : World) (b : Nat) (x y : El) (u : Value) (i : Nat) : Prop where
  le : i ≤ x.a.length
  later : Later w w'
  bx : Blk w' w.heap.size (elC x).toArray 35
  by_ : Blk w' (w.heap.size + 1) (elC y).toArray 35
  bz : Blk w' (w.heap.size + 2) #[.int .i64 0, .slice none 0 0, .int .i64 0, .slice none 0 0] 35
  cur : ∃ lst av, Blk w' b (elC ⟨x.t, x.d, x.n + y.n, lst, u, av⟩).toArray 35 ∧ EO w' w.heap.size ⟨x.t, x.d, x.n + y.n, lst, u, av⟩ ∧ jaggs (x.a.take i) (y.a.take i) = some lst
theorem JS.step {w w1 w2 : World} {b i : Nat} {x y : El} {u : Value} (h : JS w w1 b x y u i) (hl : Later w1 w2) : JS w w2 b x y u i := by
  obtain ⟨h0, h1, h2, h3, h4, lst, av, h5, h6, h7⟩ := h
  have c := Chg.of_later (ks := []) hl
  exact ⟨h0, h1.trans hl, h2.chg c (by simp), h3.chg c (by simp), h4.chg c (by simp), lst, av, h5.chg c (by simp), h6.later hl, h7⟩
set_option maxHeartbeats 1000000 in
theorem rjoin_c (x y : El) (w : World) (hx : EIs w x) (hy : EIs w y) (rx : Rr x) (ry : Rr y) (hl : x.a.length = y.a.length) :
    FnC Try.prog 35 #[elV x, elV y] w fun r w' => ∃ z e, r = .tuple #[elV z, .int .i64 e] ∧ JR x y z e ∧ EO w' w.heap.size z ∧ Later w w' := by
  obtain ⟨n1, n2, ra, rd, rl⟩ := rx
  obtain ⟨m1, m2, sa, sd, sl⟩ := ry
  unfold elV
  refine enter35 _ _ ?_
  unfold B35
  have eca : (Value.agg #[.int .i64 x.t, x.dv, .int .i64 x.n, x.av]).cells = #[.int .i64 x.t, x.dv, .int .i64 x.n, x.av] := rfl
  have ecb : (Value.agg #[.int .i64 y.t, y.dv, .int .i64 y.n, y.av]).cells = #[.int .i64 y.t, y.dv, .int .i64 y.n, y.av] := rfl
  have s1 : (w.alloc (.cells #[.int .i64 x.t, x.dv, .int .i64 x.n, x.av] 35)).heap.size = w.heap.size + 1 := World.size_alloc w _
  obtain ⟨l2, F, hs⟩ := boxes w x y hx hy
  repeat' (first | (simp (disch := omega) only [push_cast, ↓reduceIte, zA, zG, zB, zH, zI, zC, zJ, zK, zL, zD, zE, zF, zM, zN, zO, zP, zQ, reduceCtorEq, not_true_eq_false, not_false_eq_true, eca, ecb, s1, hs]) | (first | refine vIfE_of ?_ ?_ | refine vIfD_of ?_ ?_ | refine vIfQ_of ?_ ?_ | refine vIfV_of ?_ ?_) <;> intro _ | refine And.intro (by omega) ?_ | fail)
  generalize ((w.alloc (.cells #[.int .i64 x.t, x.dv, .int .i64 x.n, x.av] 35)).alloc (.cells #[.int .i64 y.t, y.dv, .int .i64 y.n, y.av] 35)) = w2 at *
  have l3 := later_alloc w2 (.cells #[.int .i64 0, .slice none 0 0, .int .i64 0, .slice none 0 0] 35)
  have B3 := Blk.new w2 #[.int .i64 0, .slice none 0 0, .int .i64 0, .slice none 0 0] 35
  rw [hs] at B3
  generalize w2.alloc (.cells #[.int .i64 0, .slice none 0 0, .int .i64 0, .slice none 0 0] 35) = w3 at *
  have G := fun w' (hl : Later w3 w') => F w' (l3.trans hl)
  have l03 := l2.trans l3
  clear F eca ecb s1
  obtain ⟨hx3, hy3, _, _, a0, a1, a2, a3, a4, b0, b1, b2, b3, b4⟩ := G w3 (Later.refl _)
  obtain ⟨ox, cx, hax, gx1, gx2⟩ := RecS.slice hx.2
  obtain ⟨oy, cy, hay, gy1, gy2⟩ := RecS.slice hy.2
  have hbig : w.heap.size + 2 < w3.heap.size := B3.lt
  repeat' (first | (simp (disch := omega) only [push_cast, ↓reduceIte, zA, zG, zB, zH, zI, zC, zJ, zK, zL, zD, zE, zF, zM, zN, zO, zP, zQ, reduceCtorEq, not_true_eq_false, not_false_eq_true, a4, b4]) | (first | refine vIfE_of ?_ ?_ | refine vIfD_of ?_ ?_ | refine vIfQ_of ?_ ?_ | refine vIfV_of ?_ ?_) <;> intro _ | refine And.intro (by omega) ?_ | refine drawn_q ?_ | fail)
  refine (rcompare_c x y w3 hx3 hy3).mono ?_
  rintro _ w4 ⟨rfl, l4⟩
  obtain ⟨hx4, hy4, _, _, a0, a1, a2, a3, a4, b0, b1, b2, b3, b4⟩ := G w4 l4
  rw [hax] at a3
  rw [hay] at b3
  by_cases hc : ecmp x y = 0
  case neg =>
    have hj : JR x y z0 131 := .inl ⟨hc, rfl, rfl⟩
    repeat' (first | (simp (disch := omega) only [push_cast, ↓reduceIte, zA, zG, zB, zH, zI, zC, zJ, zK, zL, zD, zE, zF, zM, zN, zO, zP, zQ, reduceCtorEq, not_true_eq_false, not_false_eq_true, a2, a3, b2, b3, addr_add_eq, Nat.zero_add]) | (first | refine vIfE_of ?_ ?_ | refine vIfD_of ?_ ?_ | refine vIfQ_of ?_ ?_ | refine vIfV_of ?_ ?_) <;> intro _ | refine And.intro (by omega) ?_ | refine drawn_q ?_ | fail)
    refine vStore_blk (l := [.int .i64 0, .slice none 0 0, .int .i64 0, .slice none 0 0]) (xs := elC z0) (B3.chg (Chg.of_later (ks := []) (l4)) (by simp)) rfl rfl (elC_one (EO.zero w4 0).is) ?_
    intro w9 B9 c9
    repeat' (first | (simp (disch := omega) only [push_cast, ↓reduceIte, zA, zG, zB, zH, zI, zC, zJ, zK, zL, zD, zE, zF, zM, zN, zO, zP, zQ, reduceCtorEq, not_true_eq_false, not_false_eq_true]) | (first | refine vIfE_of ?_ ?_ | refine vIfD_of ?_ ?_ | refine vIfQ_of ?_ ?_ | refine vIfV_of ?_ ?_) <;> intro _ | refine And.intro (by omega) ?_ | refine drawn_q ?_ | fail)
    refine resK_cells (s := 4) (by simp (disch := omega) only [push_cast, ↓reduceIte, zA, zG, zB, zH, zI, zC, zJ, zK, zL, zD, zE, zF, zM, zN, zO, zP, zQ, reduceCtorEq, not_true_eq_false, not_false_eq_true]) (by rw [Try.underlying35]; exact sz35) (Blk.cellsAt (l := elC z0) B9) ?_
    repeat' (first | (simp (disch := omega) only [push_cast, ↓reduceIte, zA, zG, zB, zH, zI, zC, zJ, zK, zL, zD, zE, zF, zM, zN, zO, zP, zQ, reduceCtorEq, not_true_eq_false, not_false_eq_true]) | (first | refine vIfE_of ?_ ?_ | refine vIfD_of ?_ ?_ | refine vIfQ_of ?_ ?_ | refine vIfV_of ?_ ?_) <;> intro _ | refine And.intro (by omega) ?_ | refine drawn_q ?_ | fail)
    exact ⟨z0, 131, rfl, hj, EO.zero _ _, Chg.later (l03.trans (l4)) c9 (by intro j hj; rw [List.mem_singleton.1 hj]; omega)⟩
  rw [hc]
  by_cases hn : 1048576 < x.n + y.n
  · have hj : JR x y z0 121 := .inr (.inl ⟨hc, by rw [jn_abs, if_pos hn], rfl, rfl⟩)
    repeat' (first | (simp (disch := omega) only [push_cast, ↓reduceIte, zA, zG, zB, zH, zI, zC, zJ, zK, zL, zD, zE, zF, zM, zN, zO, zP, zQ, reduceCtorEq, not_true_eq_false, not_false_eq_true, a2, a3, b2, b3, addr_add_eq, Nat.zero_add]) | (first | refine vIfE_of ?_ ?_ | refine vIfD_of ?_ ?_ | refine vIfQ_of ?_ ?_ | refine vIfV_of ?_ ?_) <;> intro _ | refine And.intro (by omega) ?_ | refine drawn_q ?_ | fail)
    refine vStore_blk (l := [.int .i64 0, .slice none 0 0, .int .i64 0, .slice none 0 0]) (xs := elC z0) (B3.chg (Chg.of_later (ks := []) (l4)) (by simp)) rfl rfl (elC_one (EO.zero w4 0).is) ?_
    intro w9 B9 c9
    repeat' (first | (simp (disch := omega) only [push_cast, ↓reduceIte, zA, zG, zB, zH, zI, zC, zJ, zK, zL, zD, zE, zF, zM, zN, zO, zP, zQ, reduceCtorEq, not_true_eq_false, not_false_eq_true]) | (first | refine vIfE_of ?_ ?_ | refine vIfD_of ?_ ?_ | refine vIfQ_of ?_ ?_ | refine vIfV_of ?_ ?_) <;> intro _ | refine And.intro (by omega) ?_ | refine drawn_q ?_ | fail)
    refine resK_cells (s := 4) (by simp (disch := omega) only [push_cast, ↓reduceIte, zA, zG, zB, zH, zI, zC, zJ, zK, zL, zD, zE, zF, zM, zN, zO, zP, zQ, reduceCtorEq, not_true_eq_false, not_false_eq_true]) (by rw [Try.underlying35]; exact sz35) (Blk.cellsAt (l := elC z0) B9) ?_
    repeat' (first | (simp (disch := omega) only [push_cast, ↓reduceIte, zA, zG, zB, zH, zI, zC, zJ, zK, zL, zD, zE, zF, zM, zN, zO, zP, zQ, reduceCtorEq, not_true_eq_false, not_false_eq_true]) | (first | refine vIfE_of ?_ ?_ | refine vIfD_of ?_ ?_ | refine vIfQ_of ?_ ?_ | refine vIfV_of ?_ ?_) <;> intro _ | refine And.intro (by omega) ?_ | refine drawn_q ?_ | fail)
    exact ⟨z0, 121, rfl, hj, EO.zero _ _, Chg.later (l03.trans (l4)) c9 (by intro j hj; rw [List.mem_singleton.1 hj]; omega)⟩
  repeat' (first | (simp (disch := omega) only [push_cast, ↓reduceIte, zA, zG, zB, zH, zI, zC, zJ, zK, zL, zD, zE, zF, zM, zN, zO, zP, zQ, reduceCtorEq, not_true_eq_false, not_false_eq_true, a2, a3, b2, b3, addr_add_eq, Nat.zero_add]) | (first | refine vIfE_of ?_ ?_ | refine vIfD_of ?_ ?_ | refine vIfQ_of ?_ ?_ | refine vIfV_of ?_ ?_) <;> intro _ | refine And.intro (by omega) ?_ | fail)
  refine drawn_k 12 ?_
  repeat' (first | (simp (disch := omega) only [push_cast, ↓reduceIte, zA, zG, zB, zH, zI, zC, zJ, zK, zL, zD, zE, zF, zM, zN, zO, zP, zQ, reduceCtorEq, not_true_eq_false, not_false_eq_true, a0, a1, a2, b2, addr_add_eq, Nat.zero_add]) | (first | refine vIfE_of ?_ ?_ | refine vIfD_of ?_ ?_ | refine vIfQ_of ?_ ?_ | refine vIfV_of ?_ ?_) <;> intro _ | refine And.intro (by omega) ?_ | fail)
  have hsz4 : w.heap.size ≤ w4.heap.size := (l03.trans l4).size
  refine NFn.of hb52 (fun v w' => OwnS w' w.heap.size v x.d) (stb_ownS _ _ _) (fun w' hl => (cloneS_c _ _ w' (hx4.later hl).1 (by omega)).mono fun v w'' hv => ⟨own_base hv.1 (Nat.le_trans hsz4 hl.size), hv.2⟩) ?_
  repeat' (first | (simp (disch := omega) only [push_cast, ↓reduceIte, zA, zG, zB, zH, zI, zC, zJ, zK, zL, zD, zE, zF, zM, zN, zO, zP, zQ, reduceCtorEq, not_true_eq_false, not_false_eq_true, a0, a1, a2, b2, addr_add_eq, Nat.zero_add]) | (first | refine vIfE_of ?_ ?_ | refine vIfD_of ?_ ?_ | refine vIfQ_of ?_ ?_ | refine vIfV_of ?_ ?_) <;> intro _ | refine And.intro (by omega) ?_ | fail)
  refine nR_bld (RowB w.heap.size x.t (x.n + y.n) x.d) (stb_rowB _ _ _ _ _) (fun σ' w' hl hp => ?_) ?_
  · obtain ⟨hp35, hp38, hp43, _⟩ := hp
    have h35 : σ' 35 = .int .i64 x.t := hp35
    have h38 : OwnS w' w.heap.size (σ' 38) x.d := hp38
    have h43 : σ' 43 = .int .i64 (x.n + y.n) := hp43
    obtain ⟨o3, c3, hv, _⟩ := Sl.openM (Sl.of_own h38 : Sl w' (σ' 38) (x.d.map Value.string))
    rw [hv] at h38
    repeat' (first | (simp (disch := omega) only [push_cast, ↓reduceIte, zA, zG, zB, zH, zI, zC, zJ, zK, zL, zD, zE, zF, zM, zN, zO, zP, zQ, reduceCtorEq, not_true_eq_false, not_false_eq_true, h35, hv, h43]) | (first | refine vIfE_of ?_ ?_ | refine vIfD_of ?_ ?_ | refine vIfQ_of ?_ ?_ | refine vIfV_of ?_ ?_) <;> intro _ | refine And.intro (by omega) ?_ | fail)
    exact ⟨Later.refl _, _, rfl, h38⟩
  repeat' (first | (simp (disch := omega) only [push_cast, ↓reduceIte, zA, zG, zB, zH, zI, zC, zJ, zK, zL, zD, zE, zF, zM, zN, zO, zP, zQ, reduceCtorEq, not_true_eq_false, not_false_eq_true]) | (first | refine vIfE_of ?_ ?_ | refine vIfD_of ?_ ?_ | refine vIfQ_of ?_ ?_ | refine vIfV_of ?_ ?_) <;> intro _ | refine And.intro (by omega) ?_ | fail)
  refine nA_of _ (PtV w4 35 #[.int .i64 0, .slice none 0 0, .int .i64 0, .slice none 0 0]) (stb_pt _ _ _ _) (fun w' hl => ?_) ?_
  · repeat' (first | (simp (disch := omega) only [push_cast, ↓reduceIte, zA, zG, zB, zH, zI, zC, zJ, zK, zL, zD, zE, zF, zM, zN, zO, zP, zQ, reduceCtorEq, not_true_eq_false, not_false_eq_true]) | (first | refine vIfE_of ?_ ?_ | refine vIfD_of ?_ ?_ | refine vIfQ_of ?_ ?_ | refine vIfV_of ?_ ?_) <;> intro _ | refine And.intro (by omega) ?_ | fail)
    exact ⟨later_alloc _ _, w'.heap.size, rfl, hl.size, Blk.new _ _ _⟩
  repeat' (first | (simp (disch := omega) only [push_cast, ↓reduceIte, zA, zG, zB, zH, zI, zC, zJ, zK, zL, zD, zE, zF, zM, zN, zO, zP, zQ, reduceCtorEq, not_true_eq_false, not_false_eq_true]) | (first | refine vIfE_of ?_ ?_ | refine vIfD_of ?_ ?_ | refine vIfQ_of ?_ ?_ | refine vIfV_of ?_ ?_) <;> intro _ | refine And.intro (by omega) ?_ | fail)
  rintro w5 l5 _ ⟨b, rfl, hb4, Bb⟩ _ ⟨u, rfl, hu⟩ _ _
  obtain ⟨ou, cu, rfl, _⟩ := Sl.openM (Sl.of_own hu : Sl w5 u (x.d.map Value.string))
  have hE0 : EO w5 w.heap.size ⟨x.t, x.d, x.n + y.n, [], .slice ou x.d.length cu, .slice none 0 0⟩ := ⟨hu, OwnR.nil _ _ _⟩
  generalize hU : Value.slice ou x.d.length cu = U at *
  refine vStore_blk (l := [.int .i64 0, .slice none 0 0, .int .i64 0, .slice none 0 0]) (xs := elC ⟨x.t, x.d, x.n + y.n, [], U, .slice none 0 0⟩) Bb rfl rfl (elC_one hE0.is) ?_
  intro w6 Bb6 c6
  have l35 := l4.trans l5
  have hb2 : w.heap.size + 2 < b := Nat.lt_of_lt_of_le hbig (Nat.le_trans l4.size hb4)
  have B35 := B3.chg (Chg.of_later (ks := []) l35) (by simp)
  obtain ⟨_, _, bx5, by5, _⟩ := G w5 l35
  have J0 : JS w w6 b x y U 0 := ⟨by omega, Chg.later (l03.trans l35) c6 (by intro j hj; rw [List.mem_singleton.1 hj]; omega), bx5.chg c6 (by simp; omega), by5.chg c6 (by simp; omega), B35.chg c6 (by simp; omega), [], .slice none 0 0, Bb6, hE0.chg Bb c6, by simp [jaggs]⟩
  clear hE0 Bb6 c6 Bb B35 bx5 by5 G hx4 hy4 a0 a1 a2 a3 a4 b0 b1 b2 b3 b4 hx3 hy3 B3 l2 l3 l03 l4 l5 l35 hu hs
  have f3 : w6.cell? ⟨w.heap.size, 3, none⟩ = some (.slice ox x.a.length cx) := by have := J0.bx.cell 3; rw [← hax]; exact this
  repeat' (first | (simp (disch := omega) only [push_cast, ↓reduceIte, zA, zG, zB, zH, zI, zC, zJ, zK, zL, zD, zE, zF, zM, zN, zO, zP, zQ, reduceCtorEq, not_true_eq_false, not_false_eq_true, f3, addr_add_eq, Nat.zero_add]) | (first | refine vIfE_of ?_ ?_ | refine vIfD_of ?_ ?_ | refine vIfQ_of ?_ ?_ | refine vIfV_of ?_ ?_) <;> intro _ | refine And.intro (by omega) ?_ | refine drawn_q ?_ | fail)
  clear f3
  have fin : ∀ w' z e, JR x y z e → EO w' w.heap.size z → Later w w' → ∃ z e', Value.tuple #[elV z, .int .i64 e] = .tuple #[elV z, .int .i64 e'] ∧ True := fun w' z e _ _ _ => ⟨z, e, rfl, trivial⟩
  refine vc_loop W35_0 (fun i : Nat => [(48, .int .i64 (i : Int))]) (fun i w' => JS w w' b x y U i) (fun i => x.a.length - i) 0 (by decide) ?_ ?_ ?_
  · simp (disch := omega) only [push_cast, ↓reduceIte, zA, zG, zB, zH, zI, zC, zJ, zK, zL, zD, zE, zF, zM, zN, zO, zP, zQ, reduceCtorEq, not_true_eq_false, not_false_eq_true]
  · exact J0
  clear J0 fin
  rintro i uu w7 J
  have hle := J.le
  have hx7 := (hx.later J.later).2
  have hy7 := (hy.later J.later).2
  rw [hax] at hx7
  rw [hay] at hy7
  by_cases hlt : i < x.a.length
  · have hlt2 : i < y.a.length := by omega
    obtain ⟨lst, av, Bc, hE, hjl⟩ := J.cur
    have hstep := jaggs_step hl hlt hlt2 hjl
    have hAa := ra _ (List.getElem_mem hlt)
    have hAc := sa _ (List.getElem_mem hlt2)
    obtain ⟨aa, rfl, f1⟩ := RecS.at agC_len hx7 hlt
    obtain ⟨bb, rfl, f2⟩ := RecS.at agC_len hy7 hlt2
    have g3 : w7.cell? ⟨w.heap.size + 1, 3, none⟩ = some (.slice (some bb) y.a.length cy) := by have := J.by_.cell 3; rw [← hay]; exact this
    generalize x.a[i] = a at *
    generalize y.a[i] = c at *
    repeat' (first | (simp (disch := omega) only [push_cast, ↓reduceIte, zA, zG, zB, zH, zI, zC, zJ, zK, zL, zD, zE, zF, zM, zN, zO, zP, zQ, reduceCtorEq, not_true_eq_false, not_false_eq_true, f1]) | (first | refine vIfE_of ?_ ?_ | refine vIfD_of ?_ ?_ | refine vIfQ_of ?_ ?_ | refine vIfV_of ?_ ?_) <;> intro _ | refine And.intro (by omega) ?_ | refine drawn_q ?_ | fail)
    refine vStore_new rfl rfl (by simpa using agC_one a) ?_
    have l8 := later_alloc w7 (.cells (agC a).toArray 64)
    have B8 := Blk.new w7 (agC a).toArray 64
    generalize w7.alloc (.cells (agC a).toArray 64) = w8 at *
    generalize w7.heap.size = k8 at *
    have f8 : cellsAt w8 ⟨k8, 0, none⟩ 3 = some (agC a) := Blk.cellsAt (l := agC a) B8
    have g38 := l8.cell g3
    have f28 := cellsAt_later l8 3 f2
    have J8 := J.step l8
    repeat' (first | (simp (disch := omega) only [push_cast, ↓reduceIte, zA, zG, zB, zH, zI, zC, zJ, zK, zL, zD, zE, zF, zM, zN, zO, zP, zQ, reduceCtorEq, not_true_eq_false, not_false_eq_true]) | (first | refine vIfE_of ?_ ?_ | refine vIfD_of ?_ ?_ | refine vIfQ_of ?_ ?_ | refine vIfV_of ?_ ?_) <;> intro _ | refine And.intro (by omega) ?_ | fail)
    refine drawnS_k 11 ?_
    repeat' (first | (simp (disch := omega) only [push_cast, ↓reduceIte, zA, zG, zB, zH, zI, zC, zJ, zK, zL, zD, zE, zF, zM, zN, zO, zP, zQ, reduceCtorEq, not_true_eq_false, not_false_eq_true, f8, g38, f28, addr_add_eq, Nat.zero_add]) | (first | refine vIfE_of ?_ ?_ | refine vIfD_of ?_ ?_ | refine vIfQ_of ?_ ?_ | refine vIfV_of ?_ ?_) <;> intro _ | refine And.intro (by omega) ?_ | fail)
    refine NFn.fix hb74 (v := jnV a c) (fun w' _ => ajoin_c a c w' hAa hAc) ?_
    by_cases hf : Fi (a.1 + c.1)
    · have jt : jnV a c = .tuple #[agV (ajn a c), .int .i64 0] := if_pos hf
      rw [jt]
      repeat' (first | (simp (disch := omega) only [push_cast, ↓reduceIte, zA, zG, zB, zH, zI, zC, zJ, zK, zL, zD, zE, zF, zM, zN, zO, zP, zQ, reduceCtorEq, not_true_eq_false, not_false_eq_true]) | (first | refine vIfE_of ?_ ?_ | refine vIfD_of ?_ ?_ | refine vIfQ_of ?_ ?_ | refine vIfV_of ?_ ?_) <;> intro _ | refine And.intro (by omega) ?_ | fail)
      refine nA_of _ (PtV w8 64 #[.int .i64 0, .int .i64 0, .int .i64 0]) (stb_pt _ _ _ _) (fun w' hl => ?_) ?_
      · repeat' (first | (simp (disch := omega) only [push_cast, ↓reduceIte, zA, zG, zB, zH, zI, zC, zJ, zK, zL, zD, zE, zF, zM, zN, zO, zP, zQ, reduceCtorEq, not_true_eq_false, not_false_eq_true]) | (first | refine vIfE_of ?_ ?_ | refine vIfD_of ?_ ?_ | refine vIfQ_of ?_ ?_ | refine vIfV_of ?_ ?_) <;> intro _ | refine And.intro (by omega) ?_ | fail)
        exact ⟨later_alloc _ _, w'.heap.size, rfl, hl.size, Blk.new _ _ _⟩
      repeat' (first | (simp (disch := omega) only [push_cast, ↓reduceIte, zA, zG, zB, zH, zI, zC, zJ, zK, zL, zD, zE, zF, zM, zN, zO, zP, zQ, reduceCtorEq, not_true_eq_false, not_false_eq_true]) | (first | refine vIfE_of ?_ ?_ | refine vIfD_of ?_ ?_ | refine vIfQ_of ?_ ?_ | refine vIfV_of ?_ ?_) <;> intro _ | refine And.intro (by omega) ?_ | fail)
      refine ⟨rfl, fun w9 l9 => ?_⟩
      rintro _ ⟨b9, rfl, hb9, B9⟩
      refine ⟨by simp (disch := omega) only [push_cast, ↓reduceIte, zA, zG, zB, zH, zI, zC, zJ, zK, zL, zD, zE, zF, zM, zN, zO, zP, zQ, reduceCtorEq, not_true_eq_false, not_false_eq_true, implies_true, and_self], ?_⟩
      repeat' (first | (simp (disch := omega) only [push_cast, ↓reduceIte, zA, zG, zB, zH, zI, zC, zJ, zK, zL, zD, zE, zF, zM, zN, zO, zP, zQ, reduceCtorEq, not_true_eq_false, not_false_eq_true]) | (first | refine vIfE_of ?_ ?_ | refine vIfD_of ?_ ?_ | refine vIfQ_of ?_ ?_ | refine vIfV_of ?_ ?_) <;> intro _ | refine And.intro (by omega) ?_ | fail)
      refine vStore_blk (l := [.int .i64 0, .int .i64 0, .int .i64 0]) (xs := agC (ajn a c)) B9 rfl rfl (agC_one _) ?_
      intro w10 B10 c10
      have l810 := Chg.later l9 c10 (by intro j hj; rw [List.mem_singleton.1 hj]; exact hb9)
      have J10 := J8.step l810
      have f10 : cellsAt w10 ⟨b9, 0, none⟩ 3 = some (agC (ajn a c)) := Blk.cellsAt (l := agC (ajn a c)) B10
      clear c10 B9 l9 hb9 f8 g38 f28 B8 l8 J8
      obtain ⟨_, hla, hbx, hby, hbz, lst', av', Bc', hE', hjl'⟩ := J10
      have hll : lst' = lst := by rw [hjl] at hjl'; exact (Option.some.inj hjl').symm
      subst hll
      obtain ⟨oa, ca, hav, _⟩ := RecS.slice (OwnR.s hE'.2)
      have hav : av' = .slice oa lst'.length ca := hav
      subst hav
      have hll2 := jaggs_len _ _ _ (by simp; omega) hjl'
      rw [List.length_take] at hll2
      have f11 : w10.cell? ⟨b, 3, none⟩ = some (.slice oa lst'.length ca) := Bc'.cell 3
      have f10' : cellsAt w10 ⟨b9, 0, none⟩ 3 = some [.int .i64 (ajn a c).1, .int .i64 (ajn a c).2.1, .int .i64 (ajn a c).2.2] := f10
      repeat' (first | (simp (disch := omega) only [push_cast, ↓reduceIte, zA, zG, zB, zH, zI, zC, zJ, zK, zL, zD, zE, zF, zM, zN, zO, zP, zQ, reduceCtorEq, not_true_eq_false, not_false_eq_true, f10', f11, addr_add_eq, Nat.zero_add]) | (first | refine vIfE_of ?_ ?_ | refine vIfD_of ?_ ?_ | refine vIfQ_of ?_ ?_ | refine vIfV_of ?_ ?_) <;> intro _ | refine And.intro (by omega) ?_ | refine drawn_q ?_ | fail)
      have la := later_alloc w10 (.cells #[.int .i64 (ajn a c).1, .int .i64 (ajn a c).2.1, .int .i64 (ajn a c).2.2] 64)
      have Bl := Blk.new w10 #[.int .i64 (ajn a c).1, .int .i64 (ajn a c).2.1, .int .i64 (ajn a c).2.2] 64
      have hEa := hE'.later la
      have hOA : OwnA (w10.alloc (.cells #[.int .i64 (ajn a c).1, .int .i64 (ajn a c).2.1, .int .i64 (ajn a c).2.2] 64)) w.heap.size (.slice oa lst'.length ca) lst' := hEa.2
      refine vAppend_rs agC_len agC_one Try.underlying33 ti64 rfl (by decide) hOA (RecS.lit1 (agC_len _) Bl) (by simp; omega) (by omega) (Nat.le_trans hla.size la.size) ?_
      intro v' w12 ho hg _
      have cl := Chg.of_later (ks := []) la
      have q1 : Blk w12 _ _ 35 := grown_obj hOA hg (hbx.chg cl (by simp)) (fun cs h => by simp at h)
      have q2 : Blk w12 _ _ 35 := grown_obj hOA hg (hby.chg cl (by simp)) (fun cs h => by simp at h)
      have q3 : Blk w12 _ _ 35 := grown_obj hOA hg (hbz.chg cl (by simp)) (fun cs h => by simp at h)
      have q4 : Blk w12 b _ 35 := grown_obj hOA hg (Bc'.chg cl (by simp)) (fun cs h => by simp at h)
      have q5 := (hla.trans la).appended hOA (Nat.le_refl _) hg
      have q6 : OwnS w12 w.heap.size U x.d := ownS_grown hEa.1 hOA hg
      obtain ⟨o2, c2, hv2, _⟩ := RecS.slice (OwnR.s ho)
      subst hv2
      have hfz := q4.frozen 3
      have hce : ∃ y, w12.cell? ⟨b, 3, none⟩ = some y := ⟨_, q4.cell 3⟩
      have gc := chg_setCell (i := 3) w12 (ks := [b]) (k := b) (by simp) (.slice o2 (lst' ++ [ajn a c]).length c2)
      have z5 := q4.set 3 (.slice o2 (lst' ++ [ajn a c]).length c2)
      repeat' (first | (simp (disch := omega) only [push_cast, ↓reduceIte, zA, zG, zB, zH, zI, zC, zJ, zK, zL, zD, zE, zF, zM, zN, zO, zP, zQ, reduceCtorEq, not_true_eq_false, not_false_eq_true, hfz, hce, addr_add_eq, Nat.zero_add]) | (first | refine vIfE_of ?_ ?_ | refine vIfD_of ?_ ?_ | refine vIfQ_of ?_ ?_ | refine vIfV_of ?_ ?_) <;> intro _ | refine And.intro (by omega) ?_ | refine drawn_q ?_ | fail)
      have hJ : JS w (w12.setCell ⟨b, 3, none⟩ (.slice o2 (lst' ++ [ajn a c]).length c2)) b x y U (i + 1) :=
        ⟨by omega, gc.later q5 (by intro j hj; rw [List.mem_singleton.1 hj]; omega), q1.chg gc (by simp; omega), q2.chg gc (by simp; omega), q3.chg gc (by simp; omega), lst' ++ [ajn a c], _, z5, ⟨own_chg_ty q6 q4 (by decide) gc, own_chg_ty ho q4 (by decide) gc⟩, hstep.1 hf⟩
      exact ⟨rfl, i + 1, by simp (disch := omega) only [push_cast, ↓reduceIte, zA, zG, zB, zH, zI, zC, zJ, zK, zL, zD, zE, zF, zM, zN, zO, zP, zQ, reduceCtorEq, not_true_eq_false, not_false_eq_true], hJ, by dsimp only; omega⟩
    · have jt : jnV a c = .tuple #[agV (0, 0, 0), .int .i64 121] := if_neg hf
      have hj : JR x y z0 121 := .inr (.inl ⟨hc, by rw [jn_abs, if_neg hn, hstep.2 hf]; rfl, rfl, rfl⟩)
      rw [jt]
      repeat' (first | (simp (disch := omega) only [push_cast, ↓reduceIte, zA, zG, zB, zH, zI, zC, zJ, zK, zL, zD, zE, zF, zM, zN, zO, zP, zQ, reduceCtorEq, not_true_eq_false, not_false_eq_true]) | (first | refine vIfE_of ?_ ?_ | refine vIfD_of ?_ ?_ | refine vIfQ_of ?_ ?_ | refine vIfV_of ?_ ?_) <;> intro _ | refine And.intro (by omega) ?_ | fail)
      refine nA_of _ (PtV w8 64 #[.int .i64 0, .int .i64 0, .int .i64 0]) (stb_pt _ _ _ _) (fun w' hl => ?_) ?_
      · repeat' (first | (simp (disch := omega) only [push_cast, ↓reduceIte, zA, zG, zB, zH, zI, zC, zJ, zK, zL, zD, zE, zF, zM, zN, zO, zP, zQ, reduceCtorEq, not_true_eq_false, not_false_eq_true]) | (first | refine vIfE_of ?_ ?_ | refine vIfD_of ?_ ?_ | refine vIfQ_of ?_ ?_ | refine vIfV_of ?_ ?_) <;> intro _ | refine And.intro (by omega) ?_ | fail)
        exact ⟨later_alloc _ _, w'.heap.size, rfl, hl.size, Blk.new _ _ _⟩
      repeat' (first | (simp (disch := omega) only [push_cast, ↓reduceIte, zA, zG, zB, zH, zI, zC, zJ, zK, zL, zD, zE, zF, zM, zN, zO, zP, zQ, reduceCtorEq, not_true_eq_false, not_false_eq_true]) | (first | refine vIfE_of ?_ ?_ | refine vIfD_of ?_ ?_ | refine vIfQ_of ?_ ?_ | refine vIfV_of ?_ ?_) <;> intro _ | refine And.intro (by omega) ?_ | fail)
      refine ⟨rfl, fun w9 l9 => ?_⟩
      rintro _ ⟨b9, rfl, hb9, B9⟩
      refine ⟨by simp (disch := omega) only [push_cast, ↓reduceIte, zA, zG, zB, zH, zI, zC, zJ, zK, zL, zD, zE, zF, zM, zN, zO, zP, zQ, reduceCtorEq, not_true_eq_false, not_false_eq_true, implies_true, and_self], ?_⟩
      repeat' (first | (simp (disch := omega) only [push_cast, ↓reduceIte, zA, zG, zB, zH, zI, zC, zJ, zK, zL, zD, zE, zF, zM, zN, zO, zP, zQ, reduceCtorEq, not_true_eq_false, not_false_eq_true]) | (first | refine vIfE_of ?_ ?_ | refine vIfD_of ?_ ?_ | refine vIfQ_of ?_ ?_ | refine vIfV_of ?_ ?_) <;> intro _ | refine And.intro (by omega) ?_ | fail)
      refine vStore_blk (l := [.int .i64 0, .int .i64 0, .int .i64 0]) (xs := agC (0, 0, 0)) B9 rfl rfl (agC_one _) ?_
      intro w10 B10 c10
      have l810 := Chg.later l9 c10 (by intro j hj; rw [List.mem_singleton.1 hj]; exact hb9)
      have J10 := J8.step l810
      have f10 : cellsAt w10 ⟨b9, 0, none⟩ 3 = some (agC (0, 0, 0)) := Blk.cellsAt (l := agC (0, 0, 0)) B10
      clear c10 B9 l9 hb9 f8 g38 f28 B8 l8 J8
      repeat' (first | (simp (disch := omega) only [push_cast, ↓reduceIte, zA, zG, zB, zH, zI, zC, zJ, zK, zL, zD, zE, zF, zM, zN, zO, zP, zQ, reduceCtorEq, not_true_eq_false, not_false_eq_true]) | (first | refine vIfE_of ?_ ?_ | refine vIfD_of ?_ ?_ | refine vIfQ_of ?_ ?_ | refine vIfV_of ?_ ?_) <;> intro _ | refine And.intro (by omega) ?_ | refine drawn_q ?_ | fail)
      refine vStore_blk (l := [.int .i64 0, .slice none 0 0, .int .i64 0, .slice none 0 0]) (xs := elC z0) J10.bz rfl rfl (elC_one (EO.zero w10 0).is) ?_
      intro w11 B11 c11
      repeat' (first | (simp (disch := omega) only [push_cast, ↓reduceIte, zA, zG, zB, zH, zI, zC, zJ, zK, zL, zD, zE, zF, zM, zN, zO, zP, zQ, reduceCtorEq, not_true_eq_false, not_false_eq_true]) | (first | refine vIfE_of ?_ ?_ | refine vIfD_of ?_ ?_ | refine vIfQ_of ?_ ?_ | refine vIfV_of ?_ ?_) <;> intro _ | refine And.intro (by omega) ?_ | refine drawn_q ?_ | fail)
      refine resK_cells (s := 4) (by simp (disch := omega) only [push_cast, ↓reduceIte, zA, zG, zB, zH, zI, zC, zJ, zK, zL, zD, zE, zF, zM, zN, zO, zP, zQ, reduceCtorEq, not_true_eq_false, not_false_eq_true]) (by rw [Try.underlying35]; exact sz35) (Blk.cellsAt (l := elC z0) B11) ?_
      repeat' (first | (simp (disch := omega) only [push_cast, ↓reduceIte, zA, zG, zB, zH, zI, zC, zJ, zK, zL, zD, zE, zF, zM, zN, zO, zP, zQ, reduceCtorEq, not_true_eq_false, not_false_eq_true]) | (first | refine vIfE_of ?_ ?_ | refine vIfD_of ?_ ?_ | refine vIfQ_of ?_ ?_ | refine vIfV_of ?_ ?_) <;> intro _ | refine And.intro (by omega) ?_ | refine drawn_q ?_ | fail)
      exact ⟨z0, 121, rfl, hj, EO.zero _ _, Chg.later J10.later c11 (by intro j hj; rw [List.mem_singleton.1 hj]; omega)⟩
  · have hi : i = x.a.length := by omega
    subst hi
    obtain ⟨lst, av, Bc, hE, hjl⟩ := J.cur
    rw [List.take_length, hl, List.take_length] at hjl
    have hj : JR x y ⟨x.t, x.d, x.n + y.n, lst, U, av⟩ 0 := .inr (.inr ⟨hc, rfl, by rw [jn_abs, if_neg hn, hjl]; rfl⟩)
    have f4 : cellsAt w7 ⟨b, 0, none⟩ 4 = some (elC ⟨x.t, x.d, x.n + y.n, lst, U, av⟩) := Blk.cellsAt (l := elC ⟨x.t, x.d, x.n + y.n, lst, U, av⟩) Bc
    repeat' (first | (simp (disch := omega) only [push_cast, ↓reduceIte, zA, zG, zB, zH, zI, zC, zJ, zK, zL, zD, zE, zF, zM, zN, zO, zP, zQ, reduceCtorEq, not_true_eq_false, not_false_eq_true, f4]) | (first | refine vIfE_of ?_ ?_ | refine vIfD_of ?_ ?_ | refine vIfQ_of ?_ ?_ | refine vIfV_of ?_ ?_) <;> intro _ | refine And.intro (by omega) ?_ | refine drawn_q ?_ | fail)
    refine vStore_blk (l := [.int .i64 0, .slice none 0 0, .int .i64 0, .slice none 0 0]) (xs := elC ⟨x.t, x.d, x.n + y.n, lst, U, av⟩) J.bz rfl rfl (elC_one hE.is) ?_
    intro w11 B11 c11
    repeat' (first | (simp (disch := omega) only [push_cast, ↓reduceIte, zA, zG, zB, zH, zI, zC, zJ, zK, zL, zD, zE, zF, zM, zN, zO, zP, zQ, reduceCtorEq, not_true_eq_false, not_false_eq_true]) | (first | refine vIfE_of ?_ ?_ | refine vIfD_of ?_ ?_ | refine vIfQ_of ?_ ?_ | refine vIfV_of ?_ ?_) <;> intro _ | refine And.intro (by omega) ?_ | refine drawn_q ?_ | fail)
    refine resK_cells (s := 4) (by simp (disch := omega) only [push_cast, ↓reduceIte, zA, zG, zB, zH, zI, zC, zJ, zK, zL, zD, zE, zF, zM, zN, zO, zP, zQ, reduceCtorEq, not_true_eq_false, not_false_eq_true]) (by rw [Try.underlying35]; exact sz35) (Blk.cellsAt (l := elC ⟨x.t, x.d, x.n + y.n, lst, U, av⟩) B11) ?_
    repeat' (first | (simp (disch := omega) only [push_cast, ↓reduceIte, zA, zG, zB, zH, zI, zC, zJ, zK, zL, zD, zE, zF, zM, zN, zO, zP, zQ, reduceCtorEq, not_true_eq_false, not_false_eq_true]) | (first | refine vIfE_of ?_ ?_ | refine vIfD_of ?_ ?_ | refine vIfQ_of ?_ ?_ | refine vIfV_of ?_ ?_) <;> intro _ | refine And.intro (by omega) ?_ | refine drawn_q ?_ | fail)
    exact ⟨⟨x.t, x.d, x.n + y.n, lst, U, av⟩, 0, rfl, hj, hE.chg J.bz c11, Chg.later J.later c11 (by intro j hj; rw [List.mem_singleton.1 hj]; omega)⟩
end Go.Proofs.Ythihbgpaoldbjaa
end
section
set_option linter.unusedSimpArgs false
namespace Go.Vc
open Go.RowKit in
/-- An append to an empty literal. -/
theorem vAppend_fresh {P : Program} {w : World} {K : Value → World → Prop} {t e ty : TypeId} {z : Value} {s b : Nat} (ht : P.underlying t = some (.slice e)) (hi : (P.info? e).map (fun i => (i.zero, i.size, i.bytes)) = some (some z, s, b)) (hzs : z.cells.size = s) (hsz : 0 < s)
    {db : Nat} {x : Value} {m : Nat} {news : List Value} (hx : SlN w s x m news) (h63 : m ≤ maxLen) (hb : m * b ≤ 140737488355328)
    (hK : ∀ v' w', (m = 0 → v' = .slice (some ⟨db, 0, none⟩) 0 0 ∧ w' = w) → (0 < m → w'.ownsRow w.heap.size e s v' m news ∧ Later w w') → K v' w') : vAppend P #[t, t] ty #[.slice (some ⟨db, 0, none⟩) 0 0, x] K w := by
  obtain ⟨i, hi1, hz, hsi, hbi⟩ := info_parts hi
  unfold vAppend
  obtain ⟨hl, hr⟩ := hx
  rcases hr with ⟨rfl, rfl⟩ | ⟨ad, c, rfl, hc1, hc2, hc3⟩
  · rw [run_val_pure (run_append_nil_src ht hi (some ⟨db, 0, none⟩) 0 0 (Nat.le_refl _) (fun ho => by cases ho))]
    exact hK _ _ (fun _ => ⟨rfl, rfl⟩) (fun h => absurd h (Nat.lt_irrefl _))
  · by_cases hm : m = 0
    · subst hm
      have hn : news = [] := List.eq_nil_of_length_eq_zero (by simpa using hl)
      subst hn
      have hrun := run_append_room_cells (P := P) w t ty e i ht hi1 db 0 0 0 ad 0 c [] (by simp) (fun j u h => by simp at h) (fun u h => by simp at h) (by omega) (fun j h => by simp at h) (fun j h => by simp at h)
      rw [run_val_pure hrun]
      exact hK _ _ (fun _ => ⟨rfl, rfl⟩) (fun h => absurd h (Nat.lt_irrefl _))
    · obtain ⟨v', w', hrun, ho, hg⟩ := run_append_arg_grows (P := P) w t ty e i z s b ht hi1 hz hsi hbi hzs hsz ⟨db, 0, none⟩ 0 0 [] (by simp) (fun j u h => by simp at h) ad m c news hl hc3 (by omega) (by omega) (by simpa using hb)
      rw [run_val_pure hrun]
      refine hK _ _ (fun h => absurd h hm) (fun _ => ⟨by simpa using ho, hg.os, hg.tape, hg.output, hg.size, fun k hk => hg.block k hk (by simp)⟩)
/-- An append to what hangs on the world. -/
theorem nR_app {P : Program} {args : Array Operand} {ts : Array TypeId} {ty : TypeId} {rs : List Nat} {Ns : NS} {σ : Env} {w : World} {Kv : Value → Prop} {Kn : (Value → World → Prop) → Prop} (V' : Value → World → Prop) (hV' : Stb w V')
    (h : ∀ σ' w', Later w w' → psis Ns σ w' σ' rs → vAppend P ts ty (args.map (ev σ')) (fun v w'' => Later w' w'' ∧ V' v w'') w') (hk : Kn V') : nR P (.call ⟨.builtin .append, args, ts⟩) ty rs Ns σ w Kv Kn :=
  .inr ⟨V', hV', fun σ' w' hl hp => nUp_val (h σ' w' hl hp), hk⟩
end Go.Vc
namespace Go.Proofs.Ythihbgpaoldbjaa
open Go.Vc Go.Key Go.Stab Go.Fold
set_option maxRecDepth 100000
def Lit0 (B : Nat) (v : Value) (w : World) : Prop := (∃ b, v = .slice (some ⟨b, 0, none⟩) 0 0) ∧ OwnS w B v []
theorem stb_lit0 (w0 : World) (B : Nat) : Stb w0 (Lit0 B) := fun _ _ _ _ hl h => ⟨h.1, own_later h.2 hl⟩
end Go.Proofs.Ythihbgpaoldbjaa
end
section
set_option linter.unusedSimpArgs false
namespace Go.Proofs.Ythihbgpaoldbjaa
open Go.Vc Go.Key
set_option maxRecDepth 100000
def vlB (b : UInt8) : Bool := decide (32 ≤ b.toNat) && decide (b.toNat ≤ 126) && !decide (b.toNat = 34) && !decide (b.toNat = 92)
def VlOk (s : ByteArray) : Prop := (∀ i (h : i < s.size), vlB s[i] = true) ∧ s.size ≤ 24
instance (s : ByteArray) : Decidable (VlOk s) := inferInstanceAs (Decidable ((∀ i (h : i < s.size), vlB s[i] = true) ∧ s.size ≤ 24))
theorem dvalue_c (s : ByteArray) (w : World) (hs : s.size ≤ 9223372036854775807) : FnC Try.prog 65 #[.string s] w fun r w' => r = .bool (decide (VlOk s)) ∧ w' = w := by
  refine enter65 _ ?_
  unfold B65
  repeat' (first | (simp (disch := omega) only [push_cast, ↓reduceIte, zA, zG, zB, zH, zI, zC, zJ, zK, zL, zD, zE, zF, zM, zN, zO, zP, zQ, reduceCtorEq, not_true_eq_false, not_false_eq_true]) | (first | refine vIfE_of ?_ ?_ | refine vIfD_of ?_ ?_ | refine vIfQ_of ?_ ?_ | refine vIfV_of ?_ ?_) <;> intro _ | refine And.intro (by omega) ?_ | refine drawn_q ?_ | fail)
  refine vc_loop W65_0 (fun i : Nat => [(2, .bool false), (3, .int .i64 (i : Int))])
    (fun i w' => i ≤ s.size ∧ w' = w ∧ ∀ j (h : j < s.size), j < i → vlB s[j] = true) (fun i => s.size - i) 0 (by decide) ?_ ?_ ?_
  · simp (disch := omega) only [push_cast, ↓reduceIte, zA, zG, zB, zH, zI, zC, zJ, zK, zL, zD, zE, zF, zM, zN, zO, zP, zQ, reduceCtorEq, not_true_eq_false, not_false_eq_true]
  · exact ⟨by omega, rfl, fun j _ hj => absurd hj (Nat.not_lt_zero _)⟩
  rintro i uu w0 ⟨hi, h0, hA⟩
  obtain rfl := h0.symm
  by_cases hlt : i < s.size
  · have hg : s[i]? = some s[i] := getElem?_pos s i hlt
    by_cases hv : vlB s[i] = true
    · have hv' := hv
      simp only [vlB, Bool.and_eq_true, decide_eq_true_eq, Bool.not_eq_true', decide_eq_false_iff_not] at hv'
      repeat' (first | (simp (disch := omega) only [push_cast, ↓reduceIte, zA, zG, zB, zH, zI, zC, zJ, zK, zL, zD, zE, zF, zM, zN, zO, zP, zQ, reduceCtorEq, not_true_eq_false, not_false_eq_true, hg]) | (first | refine vIfE_of ?_ ?_ | refine vIfD_of ?_ ?_ | refine vIfQ_of ?_ ?_ | refine vIfV_of ?_ ?_) <;> intro _ | refine And.intro (by omega) ?_ | refine drawn_q ?_ | fail)
      refine ⟨rfl, i + 1, by simp (disch := omega) only [push_cast, ↓reduceIte, zA, zG, zB, zH, zI, zC, zJ, zK, zL, zD, zE, zF, zM, zN, zO, zP, zQ, reduceCtorEq, not_true_eq_false, not_false_eq_true], ⟨by omega, rfl, fun j hj hji => ?_⟩, by dsimp only; omega⟩
      by_cases h : j < i
      · exact hA j hj h
      · have : j = i := by omega
        subst this
        exact hv
    · have hno : decide (VlOk s) = false := decide_eq_false fun h => hv (h.1 i hlt)
      have hv' : ¬ (32 ≤ s[i].toNat ∧ s[i].toNat ≤ 126 ∧ ¬ s[i].toNat = 34 ∧ ¬ s[i].toNat = 92) := by
        intro hh
        apply hv
        simp only [vlB, Bool.and_eq_true, decide_eq_true_eq, Bool.not_eq_true', decide_eq_false_iff_not]
        exact ⟨⟨⟨hh.1, hh.2.1⟩, hh.2.2.1⟩, hh.2.2.2⟩
      repeat' (first | (simp (disch := omega) only [push_cast, ↓reduceIte, zA, zG, zB, zH, zI, zC, zJ, zK, zL, zD, zE, zF, zM, zN, zO, zP, zQ, reduceCtorEq, not_true_eq_false, not_false_eq_true, hg]) | (first | refine vIfE_of ?_ ?_ | refine vIfD_of ?_ ?_ | refine vIfQ_of ?_ ?_ | refine vIfV_of ?_ ?_) <;> intro _ | refine And.intro (by omega) ?_ | refine drawn_q ?_ | fail)
      all_goals first
        | exact ⟨by rw [hno], trivial⟩
        | exact ⟨by rw [hno], rfl⟩
        | (rw [hno])
        | (exfalso; omega)
  · by_cases h24 : s.size ≤ 24
    · have hyes : decide (VlOk s) = true := decide_eq_true ⟨fun j hj => hA j hj (by omega), h24⟩
      repeat' (first | (simp (disch := omega) only [push_cast, ↓reduceIte, zA, zG, zB, zH, zI, zC, zJ, zK, zL, zD, zE, zF, zM, zN, zO, zP, zQ, reduceCtorEq, not_true_eq_false, not_false_eq_true]) | (first | refine vIfE_of ?_ ?_ | refine vIfD_of ?_ ?_ | refine vIfQ_of ?_ ?_ | refine vIfV_of ?_ ?_) <;> intro _ | refine And.intro (by omega) ?_ | refine drawn_q ?_ | fail)
      rw [hyes]
      exact congrArg Value.bool (decide_eq_true (by omega))
    · have hno : decide (VlOk s) = false := decide_eq_false fun h => h24 h.2
      repeat' (first | (simp (disch := omega) only [push_cast, ↓reduceIte, zA, zG, zB, zH, zI, zC, zJ, zK, zL, zD, zE, zF, zM, zN, zO, zP, zQ, reduceCtorEq, not_true_eq_false, not_false_eq_true]) | (first | refine vIfE_of ?_ ?_ | refine vIfD_of ?_ ?_ | refine vIfQ_of ?_ ?_ | refine vIfV_of ?_ ?_) <;> intro _ | refine And.intro (by omega) ?_ | refine drawn_q ?_ | fail)
      rw [hno]
      exact congrArg Value.bool (decide_eq_false (by omega))
def wordsL : List ByteArray := [⟨#[99, 111, 117, 110, 116]⟩, ⟨#[115, 117, 109]⟩, ⟨#[109, 105, 110]⟩, ⟨#[109, 97, 120]⟩, ⟨#[102, 114, 111, 109]⟩, ⟨#[116, 111]⟩, ⟨#[98, 121]⟩, ⟨#[101, 118, 101, 114, 121]⟩, ⟨#[119, 104, 101, 114, 101]⟩, ⟨#[104, 97, 118, 105, 110, 103]⟩, ⟨#[111, 114, 100, 101, 114]⟩, ⟨#[108, 105, 109, 105, 116]⟩, ⟨#[97, 110, 100]⟩, ⟨#[111, 114]⟩, ⟨#[110, 111, 116]⟩, ⟨#[105, 115]⟩, ⟨#[110, 117, 108, 108]⟩, ⟨#[97, 115, 99]⟩, ⟨#[100, 101, 115, 99]⟩, ⟨#[115, 101, 108, 101, 99, 116]⟩]
theorem words_c (w : World) : FnC Try.prog 103 #[] w fun r w' => StS w' r wordsL ∧ Later w w' := by
  refine enter103 ?_
  unfold B103
  repeat' (first | (simp (disch := omega) only [push_cast, ↓reduceIte, zA, zG, zB, zH, zI, zC, zJ, zK, zL, zD, zE, zF, zM, zN, zO, zP, zQ, reduceCtorEq, not_true_eq_false, not_false_eq_true]) | (first | refine vIfE_of ?_ ?_ | refine vIfD_of ?_ ?_ | refine vIfQ_of ?_ ?_ | refine vIfV_of ?_ ?_) <;> intro _ | refine And.intro (by omega) ?_ | refine drawn_q ?_ | fail)
  exact ⟨Sl.of_blk (xs := wordsL.map Value.string) (Blk.new w _ _) rfl (by unfold maxLen; omega), later_alloc _ _⟩
def nmB (i : Nat) (b : UInt8) : Prop := (97 ≤ b.toNat ∧ b.toNat ≤ 122) ∨ (i ≠ 0 ∧ ((48 ≤ b.toNat ∧ b.toNat ≤ 57) ∨ b.toNat = 95))
instance (i : Nat) (b : UInt8) : Decidable (nmB i b) := inferInstanceAs (Decidable (_ ∨ _))
def NmOk (s : ByteArray) : Prop := (∀ x ∈ wordsL, x ≠ s) ∧ (∀ i (h : i < s.size), nmB i s[i]) ∧ 1 ≤ s.size ∧ s.size ≤ 12
instance (s : ByteArray) : Decidable (NmOk s) := inferInstanceAs (Decidable ((∀ x ∈ wordsL, x ≠ s) ∧ (∀ i (h : i < s.size), nmB i s[i]) ∧ 1 ≤ s.size ∧ s.size ≤ 12))
theorem dname_c (s : ByteArray) (w : World) (hs : s.size ≤ 9223372036854775807) : FnC Try.prog 79 #[.string s] w fun r w' => r = .bool (decide (NmOk s)) ∧ Later w w' := by
  refine enter79 _ ?_
  unfold B79
  repeat' (first | (simp (disch := omega) only [push_cast, ↓reduceIte, zA, zG, zB, zH, zI, zC, zJ, zK, zL, zD, zE, zF, zM, zN, zO, zP, zQ, reduceCtorEq, not_true_eq_false, not_false_eq_true]) | (first | refine vIfE_of ?_ ?_ | refine vIfD_of ?_ ?_ | refine vIfQ_of ?_ ?_ | refine vIfV_of ?_ ?_) <;> intro _ | refine And.intro (by omega) ?_ | refine drawn_q ?_ | fail)
  refine (words_c w).mono ?_
  rintro v w1 ⟨hW, l1⟩
  obtain ⟨o, c, rfl⟩ := Sl.slice hW
  have hl : (wordsL.map Value.string).length = 20 := rfl
  rw [hl]
  rw [hl] at hW
  repeat' (first | (simp (disch := omega) only [push_cast, ↓reduceIte, zA, zG, zB, zH, zI, zC, zJ, zK, zL, zD, zE, zF, zM, zN, zO, zP, zQ, reduceCtorEq, not_true_eq_false, not_false_eq_true]) | (first | refine vIfE_of ?_ ?_ | refine vIfD_of ?_ ?_ | refine vIfQ_of ?_ ?_ | refine vIfV_of ?_ ?_) <;> intro _ | refine And.intro (by omega) ?_ | refine drawn_q ?_ | fail)
  refine vc_loop W79_0 (fun i : Nat => [(2, .bool false), (4, .int .i64 (i : Int))])
    (fun i w' => i ≤ 20 ∧ Later w1 w' ∧ ∀ j (h : j < wordsL.length), j < i → wordsL[j] ≠ s) (fun i => 20 - i) 0 (by decide) ?_ ?_ ?_
  · simp (disch := omega) only [push_cast, ↓reduceIte, zA, zG, zB, zH, zI, zC, zJ, zK, zL, zD, zE, zF, zM, zN, zO, zP, zQ, reduceCtorEq, not_true_eq_false, not_false_eq_true]
  · exact ⟨by omega, Later.refl _, fun j _ hj => absurd hj (Nat.not_lt_zero _)⟩
  rintro i uu w2 ⟨hi, l2, hA⟩
  by_cases hlt : i < wordsL.length
  · have hlt' : i < 20 := hlt
    cases o with
    | none => have := Sl.len hW; simp [wordsL] at this
    | some a =>
    have hc := StS.atS (Sl.later hW l2) hlt
    by_cases hv : wordsL[i] = s
    · have hno : decide (NmOk s) = false := decide_eq_false fun h => h.1 _ (List.getElem_mem hlt) hv
      repeat' (first | (simp (disch := omega) only [push_cast, ↓reduceIte, zA, zG, zB, zH, zI, zC, zJ, zK, zL, zD, zE, zF, zM, zN, zO, zP, zQ, reduceCtorEq, not_true_eq_false, not_false_eq_true, hc, hv, decide_true]) | (first | refine vIfE_of ?_ ?_ | refine vIfD_of ?_ ?_ | refine vIfQ_of ?_ ?_ | refine vIfV_of ?_ ?_) <;> intro _ | refine And.intro (by omega) ?_ | refine drawn_q ?_ | fail)
      first | exact ⟨by rw [hno], (l1.trans l2)⟩ | exact (l1.trans l2)
    · repeat' (first | (simp (disch := omega) only [push_cast, ↓reduceIte, zA, zG, zB, zH, zI, zC, zJ, zK, zL, zD, zE, zF, zM, zN, zO, zP, zQ, reduceCtorEq, not_true_eq_false, not_false_eq_true, hc, hv, decide_false]) | (first | refine vIfE_of ?_ ?_ | refine vIfD_of ?_ ?_ | refine vIfQ_of ?_ ?_ | refine vIfV_of ?_ ?_) <;> intro _ | refine And.intro (by omega) ?_ | refine drawn_q ?_ | fail)
      refine ⟨rfl, i + 1, by simp (disch := omega) only [push_cast, ↓reduceIte, zA, zG, zB, zH, zI, zC, zJ, zK, zL, zD, zE, zF, zM, zN, zO, zP, zQ, reduceCtorEq, not_true_eq_false, not_false_eq_true], ⟨by omega, l2, fun j hj hji => ?_⟩, by dsimp only; omega⟩
      by_cases h : j < i
      · exact hA j hj h
      · have : j = i := by omega
        subst this
        exact hv
  have hi20 : i = 20 := by have : wordsL.length = 20 := rfl; omega
  subst hi20
  have hmem : ∀ x ∈ wordsL, x ≠ s := by
    intro x hm
    obtain ⟨j, hj, rfl⟩ := List.getElem_of_mem hm
    exact hA j hj hj
  have l12 := l1.trans l2
  repeat' (first | (simp (disch := omega) only [push_cast, ↓reduceIte, zA, zG, zB, zH, zI, zC, zJ, zK, zL, zD, zE, zF, zM, zN, zO, zP, zQ, reduceCtorEq, not_true_eq_false, not_false_eq_true]) | (first | refine vIfE_of ?_ ?_ | refine vIfD_of ?_ ?_ | refine vIfQ_of ?_ ?_ | refine vIfV_of ?_ ?_) <;> intro _ | refine And.intro (by omega) ?_ | refine drawn_q ?_ | fail)
  refine vc_loop W79_1 (fun i : Nat => [(2, .bool false), (5, .int .i64 (i : Int))])
    (fun i w' => i ≤ s.size ∧ w' = w2 ∧ ∀ j (h : j < s.size), j < i → nmB j s[j]) (fun i => s.size - i) 0 (by decide) ?_ ?_ ?_
  · simp (disch := omega) only [push_cast, ↓reduceIte, zA, zG, zB, zH, zI, zC, zJ, zK, zL, zD, zE, zF, zM, zN, zO, zP, zQ, reduceCtorEq, not_true_eq_false, not_false_eq_true]
  · exact ⟨by omega, rfl, fun j _ hj => absurd hj (Nat.not_lt_zero _)⟩
  rintro i uu2 w0 ⟨hi, h0, hB⟩
  obtain rfl := h0.symm
  by_cases hlt : i < s.size
  · have hg : s[i]? = some s[i] := getElem?_pos s i hlt
    have hno : ¬ nmB i s[i] → decide (NmOk s) = false := fun hv => decide_eq_false fun h => hv (h.2.1 i hlt)
    have hyes : nmB i s[i] → ∀ j (h : j < s.size), j < i + 1 → nmB j s[j] := by
      intro hv j hj hji
      by_cases h : j < i
      · exact hB j hj h
      · have : j = i := by omega
        subst this
        exact hv
    generalize hN : nmB i s[i] = N at hno hyes
    unfold nmB at hN
    generalize s[i] = ch at *
    repeat' (first | (simp (disch := omega) only [push_cast, ↓reduceIte, zA, zG, zB, zH, zI, zC, zJ, zK, zL, zD, zE, zF, zM, zN, zO, zP, zQ, reduceCtorEq, not_true_eq_false, not_false_eq_true, hg]) | (first | refine vIfE_of ?_ ?_ | refine vIfD_of ?_ ?_ | refine vIfQ_of ?_ ?_ | refine vIfV_of ?_ ?_) <;> intro _ | refine And.intro (by omega) ?_ | refine drawn_q ?_ | fail)
    all_goals first
      | (have hn : ¬ N := by rw [← hN]; omega
         first | exact ⟨by rw [hno hn], l12⟩ | (rw [hno hn]))
      | (have hn : N := by rw [← hN]; omega
         exact ⟨rfl, i + 1, by simp (disch := omega) only [push_cast, ↓reduceIte, zA, zG, zB, zH, zI, zC, zJ, zK, zL, zD, zE, zF, zM, zN, zO, zP, zQ, reduceCtorEq, not_true_eq_false, not_false_eq_true], ⟨by omega, rfl, hyes hn⟩, by dsimp only; omega⟩)
  · have hall : ∀ j (h : j < s.size), nmB j s[j] := fun j hj => hB j hj (by omega)
    have hd : decide (NmOk s) = (decide (1 ≤ s.size) && decide (s.size ≤ 12)) := by
      rw [← Bool.decide_and]
      exact decide_eq_decide.2 ⟨fun h => h.2.2, fun h => ⟨hmem, hall, h⟩⟩
    by_cases h1 : 1 ≤ s.size
    · by_cases h2 : s.size ≤ 12
      · rw [hd, decide_eq_true h1, decide_eq_true h2]
        repeat' (first | (simp (disch := omega) only [push_cast, ↓reduceIte, zA, zG, zB, zH, zI, zC, zJ, zK, zL, zD, zE, zF, zM, zN, zO, zP, zQ, reduceCtorEq, not_true_eq_false, not_false_eq_true]) | (first | refine vIfE_of ?_ ?_ | refine vIfD_of ?_ ?_ | refine vIfQ_of ?_ ?_ | refine vIfV_of ?_ ?_) <;> intro _ | refine And.intro (by omega) ?_ | refine drawn_q ?_ | fail)
        first | exact ⟨congrArg Value.bool (decide_eq_true (by omega)), l12⟩ | exact l12
      · rw [hd, decide_eq_true h1, decide_eq_false h2]
        repeat' (first | (simp (disch := omega) only [push_cast, ↓reduceIte, zA, zG, zB, zH, zI, zC, zJ, zK, zL, zD, zE, zF, zM, zN, zO, zP, zQ, reduceCtorEq, not_true_eq_false, not_false_eq_true]) | (first | refine vIfE_of ?_ ?_ | refine vIfD_of ?_ ?_ | refine vIfQ_of ?_ ?_ | refine vIfV_of ?_ ?_) <;> intro _ | refine And.intro (by omega) ?_ | refine drawn_q ?_ | fail)
        first | exact ⟨congrArg Value.bool (decide_eq_false (by omega)), l12⟩ | exact l12
    · rw [hd, decide_eq_false h1]
      repeat' (first | (simp (disch := omega) only [push_cast, ↓reduceIte, zA, zG, zB, zH, zI, zC, zJ, zK, zL, zD, zE, zF, zM, zN, zO, zP, zQ, reduceCtorEq, not_true_eq_false, not_false_eq_true]) | (first | refine vIfE_of ?_ ?_ | refine vIfD_of ?_ ?_ | refine vIfQ_of ?_ ?_ | refine vIfV_of ?_ ?_) <;> intro _ | refine And.intro (by omega) ?_ | refine drawn_q ?_ | fail)
      first | exact ⟨rfl, l12⟩ | exact l12
/-- Texts that are gone through. -/
def F10 (l : List ByteArray) : Prop := l.length ≤ 20 ∧ ∀ s ∈ l, s.size ≤ 80
instance (l : List ByteArray) : Decidable (F10 l) := inferInstanceAs (Decidable (_ ∧ _))
theorem fits10_c (v : Value) (l : List ByteArray) (w : World) (h : StS w v l) (hs : ∀ s ∈ l, s.size ≤ 9223372036854775807) : FnC Try.prog 16 #[v] w fun r w' => r = .bool (decide (F10 l)) ∧ w' = w := by
  obtain ⟨o, c, rfl⟩ := Sl.slice h
  rw [List.length_map] at h ⊢
  refine enter16 _ ?_
  unfold B16
  have hbig := (Sl.len h).2.1
  have hbig2 := (Sl.len h).2.2.1
  unfold maxLen at hbig2
  repeat' (first | (simp (disch := omega) only [push_cast, ↓reduceIte, zA, zG, zB, zH, zI, zC, zJ, zK, zL, zD, zE, zF, zM, zN, zO, zP, zQ, reduceCtorEq, not_true_eq_false, not_false_eq_true]) | (first | refine vIfE_of ?_ ?_ | refine vIfD_of ?_ ?_ | refine vIfQ_of ?_ ?_ | refine vIfV_of ?_ ?_) <;> intro _ | refine And.intro (by omega) ?_ | refine drawn_q ?_ | fail)
  refine vc_loop W16_0 (fun i : Nat => [(2, .bool false), (3, .int .i64 (i : Int))])
    (fun i w' => i ≤ l.length ∧ i ≤ 20 ∧ w' = w ∧ ∀ j (h : j < l.length), j < i → l[j].size ≤ 80) (fun i => l.length - i) 0 (by decide) ?_ ?_ ?_
  · simp (disch := omega) only [push_cast, ↓reduceIte, zA, zG, zB, zH, zI, zC, zJ, zK, zL, zD, zE, zF, zM, zN, zO, zP, zQ, reduceCtorEq, not_true_eq_false, not_false_eq_true]
  · exact ⟨by omega, by omega, rfl, fun j _ hj => absurd hj (Nat.not_lt_zero _)⟩
  rintro i uu w0 ⟨hi, hi20, h0, hA⟩
  obtain rfl := h0.symm
  by_cases hlt : i < l.length
  · cases o with
    | none => have := (Sl.len h).2.2.2 rfl; simp at this; rw [this.1] at hlt; simp at hlt
    | some a =>
    have hc := StS.atS h hlt
    have hz := hs _ (List.getElem_mem hlt)
    by_cases h20 : i = 20
    · have hno : decide (F10 l) = false := decide_eq_false fun h => by have := h.1; omega
      subst h20
      repeat' (first | (simp (disch := omega) only [push_cast, ↓reduceIte, zA, zG, zB, zH, zI, zC, zJ, zK, zL, zD, zE, zF, zM, zN, zO, zP, zQ, reduceCtorEq, not_true_eq_false, not_false_eq_true, hc]) | (first | refine vIfE_of ?_ ?_ | refine vIfD_of ?_ ?_ | refine vIfQ_of ?_ ?_ | refine vIfV_of ?_ ?_) <;> intro _ | refine And.intro (by omega) ?_ | refine drawn_q ?_ | fail)
      first | exact ⟨by rw [hno], trivial⟩ | (rw [hno])
    · by_cases h80 : l[i].size ≤ 80
      · repeat' (first | (simp (disch := omega) only [push_cast, ↓reduceIte, zA, zG, zB, zH, zI, zC, zJ, zK, zL, zD, zE, zF, zM, zN, zO, zP, zQ, reduceCtorEq, not_true_eq_false, not_false_eq_true, hc]) | (first | refine vIfE_of ?_ ?_ | refine vIfD_of ?_ ?_ | refine vIfQ_of ?_ ?_ | refine vIfV_of ?_ ?_) <;> intro _ | refine And.intro (by omega) ?_ | refine drawn_q ?_ | fail)
        refine ⟨rfl, i + 1, by simp (disch := omega) only [push_cast, ↓reduceIte, zA, zG, zB, zH, zI, zC, zJ, zK, zL, zD, zE, zF, zM, zN, zO, zP, zQ, reduceCtorEq, not_true_eq_false, not_false_eq_true], ⟨by omega, by omega, rfl, fun j hj hji => ?_⟩, by dsimp only; omega⟩
        by_cases h : j < i
        · exact hA j hj h
        · have : j = i := by omega
          subst this
          exact h80
      · have hno : decide (F10 l) = false := decide_eq_false fun h => h80 (h.2 _ (List.getElem_mem _))
        repeat' (first | (simp (disch := omega) only [push_cast, ↓reduceIte, zA, zG, zB, zH, zI, zC, zJ, zK, zL, zD, zE, zF, zM, zN, zO, zP, zQ, reduceCtorEq, not_true_eq_false, not_false_eq_true, hc]) | (first | refine vIfE_of ?_ ?_ | refine vIfD_of ?_ ?_ | refine vIfQ_of ?_ ?_ | refine vIfV_of ?_ ?_) <;> intro _ | refine And.intro (by omega) ?_ | refine drawn_q ?_ | fail)
        first | exact ⟨by rw [hno], trivial⟩ | (rw [hno])
  · have hyes : decide (F10 l) = true := decide_eq_true ⟨by omega, fun s hs => by
      obtain ⟨j, hj, rfl⟩ := List.getElem_of_mem hs
      exact hA j hj (by omega)⟩
    repeat' (first | (simp (disch := omega) only [push_cast, ↓reduceIte, zA, zG, zB, zH, zI, zC, zJ, zK, zL, zD, zE, zF, zM, zN, zO, zP, zQ, reduceCtorEq, not_true_eq_false, not_false_eq_true]) | (first | refine vIfE_of ?_ ?_ | refine vIfD_of ?_ ?_ | refine vIfQ_of ?_ ?_ | refine vIfV_of ?_ ?_) <;> intro _ | refine And.intro (by omega) ?_ | refine drawn_q ?_ | fail)
    rw [hyes]
end Go.Proofs.Ythihbgpaoldbjaa
end
section
namespace Go.Proofs.Ythihbgpaoldbjaa
open Go.Vc
set_option maxRecDepth 100000
variable (Q : Post) (ds : List Deferred) (σ : Env) (w : World)
/-! 6 columbary/columbarylaw13.RowsTells (params #[24, 35, 49], results #[(.tmp 6)], 77 slots) -/
def r6_0 : List VOp :=
  [⟨some 3, .box 24 (.tmp 0), 0, none⟩,
   ⟨some 4, .box 35 (.tmp 1), 0, none⟩,
   ⟨some 5, .box 49 (.tmp 2), 0, none⟩,
   ⟨some 6, .assign (.const (.bool false)), 4, none⟩]
def r6_1 : List VOp :=
  [lda 14 24 3,
   ⟨some 15, .call ⟨.value (.func 11), #[(.tmp 14), (.const (.slice none 0 0))], #[24, 25]⟩, 4, none⟩,
   asg 7 15 4]
def r6_2 : List VOp :=
  [fad 16 35 4 1,
   lda 17 22 16,
   ⟨some 18, .call ⟨.value (.func 16), #[.tmp 17], #[22]⟩, 4, none⟩,
   asg 8 18 4]
def r6_3 : List VOp :=
  [fad 19 49 5 1,
   lda 20 22 19,
   ⟨some 21, .call ⟨.value (.func 16), #[.tmp 20], #[22]⟩, 4, none⟩,
   asg 9 21 4]
def r6_4 : List VOp :=
  [mv 22 7 4,
   ⟨some 23, .unOp .not 4 (.tmp 22), 4, none⟩,
   mv 24 23 4,
   ⟨some 25, .move (.tmp 8), 4, some (24, false)⟩,
   ⟨some 26, .unOp .not 4 (.tmp 25), 4, some (24, false)⟩,
   ⟨some 27, .pick (.tmp 24) (.const (.bool true)) (.tmp 26), 4, none⟩,
   mv 28 27 4,
   ⟨some 29, .move (.tmp 9), 4, some (28, false)⟩,
   ⟨some 30, .unOp .not 4 (.tmp 29), 4, some (28, false)⟩,
   ⟨some 31, .pick (.tmp 28) (.const (.bool true)) (.tmp 30), 4, none⟩,
   mv 32 31 4,
   ⟨some 33, .fieldAddr 35 (.tmp 4) 3, 0, some (32, false)⟩,
   ⟨some 34, .load 33 (.tmp 33), 33, some (32, false)⟩,
   ⟨some 35, .call ⟨.builtin .len, #[.tmp 34], #[33]⟩, 3, some (32, false)⟩,
   ⟨some 36, .binOp .gtr 3 (.tmp 35) (.const (.int .i64 20)) 3, 4, some (32, false)⟩,
   ⟨some 37, .pick (.tmp 32) (.const (.bool true)) (.tmp 36), 4, none⟩,
   mv 38 37 4,
   ⟨some 39, .fieldAddr 49 (.tmp 5) 2, 0, some (38, false)⟩,
   ⟨some 40, .load 47 (.tmp 39), 47, some (38, false)⟩,
   ⟨some 41, .call ⟨.builtin .len, #[.tmp 40], #[47]⟩, 3, some (38, false)⟩,
   ⟨some 42, .binOp .gtr 3 (.tmp 41) (.const (.int .i64 20)) 3, 4, some (38, false)⟩,
   ⟨some 43, .pick (.tmp 38) (.const (.bool true)) (.tmp 42), 4, none⟩]
def r6_5 : List VOp :=
  [⟨some 44, .call ⟨.value (.func 24), #[], #[]⟩, 4, none⟩,
   asg 6 44 4]
def r6_6 : List VOp :=
  [lda 46 24 3,
   lda 47 49 5,
   ⟨some 48, .call ⟨.value (.func 25), #[.tmp 46, .tmp 47], #[24, 49]⟩, 50, none⟩,
   mv 45 48 50,
   ext 49 45 0 35,
   ext 50 45 1 28,
   ⟨some 10, .alloc 35, 0, none⟩,
   ⟨none, .store 35 (.tmp 10) (.tmp 49), 0, none⟩,
   asg 11 50 28]
def r6_7 : List VOp :=
  [lda 52 24 3,
   lda 53 49 5,
   ⟨some 54, .call ⟨.value (.func 26), #[.tmp 52, .tmp 53], #[24, 49]⟩, 50, none⟩,
   mv 51 54 50,
   ext 55 51 0 35,
   ext 56 51 1 28,
   ⟨some 12, .alloc 35, 0, none⟩,
   ⟨none, .store 35 (.tmp 12) (.tmp 55), 0, none⟩,
   asg 13 56 28]
def r6_8 : List VOp :=
  [⟨some 57, .call ⟨.value (.func 24), #[], #[]⟩, 4, none⟩,
   mv 58 57 4,
   ⟨some 59, .load 24 (.tmp 3), 24, some (58, true)⟩,
   ⟨some 60, .load 35 (.tmp 4), 35, some (58, true)⟩,
   ⟨some 61, .call ⟨.value (.func 27), #[.tmp 59, .tmp 60], #[24, 35]⟩, 4, some (58, true)⟩,
   ⟨some 62, .load 24 (.tmp 3), 24, some (58, true)⟩,
   ⟨some 63, .load 35 (.tmp 4), 35, some (58, true)⟩,
   ⟨some 64, .call ⟨.value (.func 28), #[.tmp 62, .tmp 63], #[24, 35]⟩, 4, some (58, true)⟩,
   ⟨some 65, .binOp .eql 4 (.tmp 61) (.tmp 64) 4, 4, some (58, true)⟩,
   ⟨some 66, .pick (.tmp 58) (.tmp 65) (.const (.bool false)), 4, none⟩,
   mv 67 66 4,
   ⟨some 68, .load 35 (.tmp 10), 35, some (67, true)⟩,
   ⟨some 69, .load 35 (.tmp 12), 35, some (67, true)⟩,
   ⟨some 70, .call ⟨.value (.func 29), #[.tmp 68, .tmp 69], #[35, 35]⟩, 4, some (67, true)⟩,
   ⟨some 71, .pick (.tmp 67) (.tmp 70) (.const (.bool false)), 4, none⟩,
   mv 72 71 4,
   ⟨some 73, .move (.tmp 11), 28, some (72, true)⟩,
   ⟨some 74, .move (.tmp 13), 28, some (72, true)⟩,
   ⟨some 75, .binOp .eql 28 (.tmp 73) (.tmp 74) 28, 4, some (72, true)⟩,
   ⟨some 76, .pick (.tmp 72) (.tmp 75) (.const (.bool false)), 4, none⟩,
   asg 6 76 4]
def B6 : VC :=
  (.seq (.region r6_0) (.seq (.region r6_1) (.seq (.region r6_2) (.seq (.region r6_3) (.seq (.seq (.region r6_4) (.cond (.tmp 43) (.seq (.region r6_5) .ret) .skip)) (.seq (.region r6_6) (.seq (.region r6_7) (.seq (.draw r6_8 4) .ret))))))))
theorem code6 : ∃ c, Try.f6.body = some c ∧ abs Try.f6.ntmps c = B6 := ⟨_, rfl, by kernel_rfl⟩
theorem hb6 : HasBody Try.prog 6 := hasBody_of Try.func6 (by kernel_rfl)
theorem res6 : Try.f6.results = #[(.tmp 6)] := rfl
theorem enter6 {w : World} {R : Value → World → Prop} (x0 x1 x2 : Value) (h : vc Try.prog B6 (retK Try.prog #[(.tmp 6)] R) [] (initEnv [x0, x1, x2] 0) w) : FnC Try.prog 6 #[x0, x1, x2] w R := by
  obtain ⟨c, h1, h2⟩ := code6
  exact hb6.fn (ret_of_vc mixed Try.func6 h1 (Nat.le_of_ble_eq_true rfl) B6 h2 h)
@[push_cast] theorem vr6_0 : VR r6_0 [⟨some 3, .box 24 (.tmp 0), 0, none⟩, ⟨some 4, .box 35 (.tmp 1), 0, none⟩, ⟨some 5, .box 49 (.tmp 2), 0, none⟩, ⟨some 6, .assign (.const (.bool false)), 4, none⟩] := vR rfl
@[push_cast] theorem vr6_1 : VR r6_1 [⟨some 14, .load 24 (.tmp 3), 24, none⟩, ⟨some 15, .call ⟨.value (.func 11), #[(.tmp 14), (.const (.slice none 0 0))], #[24, 25]⟩, 4, none⟩, ⟨some 7, .assign (.tmp 15), 4, none⟩] := vR rfl
@[push_cast] theorem vr6_2 : VR r6_2 [⟨some 16, .fieldAddr 35 (.tmp 4) 1, 0, none⟩, ⟨some 17, .load 22 (.tmp 16), 22, none⟩, ⟨some 18, .call ⟨.value (.func 16), #[.tmp 17], #[22]⟩, 4, none⟩, ⟨some 8, .assign (.tmp 18), 4, none⟩] := vR rfl
@[push_cast] theorem vr6_3 : VR r6_3 [⟨some 19, .fieldAddr 49 (.tmp 5) 1, 0, none⟩, ⟨some 20, .load 22 (.tmp 19), 22, none⟩, ⟨some 21, .call ⟨.value (.func 16), #[.tmp 20], #[22]⟩, 4, none⟩, ⟨some 9, .assign (.tmp 21), 4, none⟩] := vR rfl
@[push_cast] theorem vr6_4 : VR r6_4 [⟨some 22, .move (.tmp 7), 4, none⟩, ⟨some 23, .unOp .not 4 (.tmp 22), 4, none⟩, ⟨some 24, .move (.tmp 23), 4, none⟩, ⟨some 25, .move (.tmp 8), 4, some (24, false)⟩, ⟨some 26, .unOp .not 4 (.tmp 25), 4, some (24, false)⟩, ⟨some 27, .pick (.tmp 24) (.const (.bool true)) (.tmp 26), 4, none⟩, ⟨some 28, .move (.tmp 27), 4, none⟩, ⟨some 29, .move (.tmp 9), 4, some (28, false)⟩, ⟨some 30, .unOp .not 4 (.tmp 29), 4, some (28, false)⟩, ⟨some 31, .pick (.tmp 28) (.const (.bool true)) (.tmp 30), 4, none⟩, ⟨some 32, .move (.tmp 31), 4, none⟩, ⟨some 33, .fieldAddr 35 (.tmp 4) 3, 0, some (32, false)⟩, ⟨some 34, .load 33 (.tmp 33), 33, some (32, false)⟩, ⟨some 35, .call ⟨.builtin .len, #[.tmp 34], #[33]⟩, 3, some (32, false)⟩, ⟨some 36, .binOp .gtr 3 (.tmp 35) (.const (.int .i64 20)) 3, 4, some (32, false)⟩, ⟨some 37, .pick (.tmp 32) (.const (.bool true)) (.tmp 36), 4, none⟩, ⟨some 38, .move (.tmp 37), 4, none⟩, ⟨some 39, .fieldAddr 49 (.tmp 5) 2, 0, some (38, false)⟩, ⟨some 40, .load 47 (.tmp 39), 47, some (38, false)⟩, ⟨some 41, .call ⟨.builtin .len, #[.tmp 40], #[47]⟩, 3, some (38, false)⟩, ⟨some 42, .binOp .gtr 3 (.tmp 41) (.const (.int .i64 20)) 3, 4, some (38, false)⟩, ⟨some 43, .pick (.tmp 38) (.const (.bool true)) (.tmp 42), 4, none⟩] := vR rfl
@[push_cast] theorem vr6_5 : VR r6_5 [⟨some 44, .call ⟨.value (.func 24), #[], #[]⟩, 4, none⟩, ⟨some 6, .assign (.tmp 44), 4, none⟩] := vR rfl
@[push_cast] theorem vr6_6 : VR r6_6 [⟨some 46, .load 24 (.tmp 3), 24, none⟩, ⟨some 47, .load 49 (.tmp 5), 49, none⟩, ⟨some 48, .call ⟨.value (.func 25), #[.tmp 46, .tmp 47], #[24, 49]⟩, 50, none⟩, ⟨some 45, .move (.tmp 48), 50, none⟩, ⟨some 49, .extract (.tmp 45) 0, 35, none⟩, ⟨some 50, .extract (.tmp 45) 1, 28, none⟩, ⟨some 10, .alloc 35, 0, none⟩, ⟨none, .store 35 (.tmp 10) (.tmp 49), 0, none⟩, ⟨some 11, .assign (.tmp 50), 28, none⟩] := vR rfl
@[push_cast] theorem vr6_7 : VR r6_7 [⟨some 52, .load 24 (.tmp 3), 24, none⟩, ⟨some 53, .load 49 (.tmp 5), 49, none⟩, ⟨some 54, .call ⟨.value (.func 26), #[.tmp 52, .tmp 53], #[24, 49]⟩, 50, none⟩, ⟨some 51, .move (.tmp 54), 50, none⟩, ⟨some 55, .extract (.tmp 51) 0, 35, none⟩, ⟨some 56, .extract (.tmp 51) 1, 28, none⟩, ⟨some 12, .alloc 35, 0, none⟩, ⟨none, .store 35 (.tmp 12) (.tmp 55), 0, none⟩, ⟨some 13, .assign (.tmp 56), 28, none⟩] := vR rfl
@[push_cast] theorem vr6_8 : vc Try.prog (.draw r6_8 4) Q ds σ w = drawn Try.prog [(⟨some 57, .call ⟨.value (.func 24), #[], #[]⟩, 4, none⟩, []), (⟨some 58, .move (.tmp 57), 4, none⟩, [57]), (⟨some 59, .load 24 (.tmp 3), 24, some (58, true)⟩, [3, 58]), (⟨some 60, .load 35 (.tmp 4), 35, some (58, true)⟩, [4, 58]), (⟨some 61, .call ⟨.value (.func 27), #[.tmp 59, .tmp 60], #[24, 35]⟩, 4, some (58, true)⟩, [59, 60, 58]), (⟨some 62, .load 24 (.tmp 3), 24, some (58, true)⟩, [3, 58]), (⟨some 63, .load 35 (.tmp 4), 35, some (58, true)⟩, [4, 58]), (⟨some 64, .call ⟨.value (.func 28), #[.tmp 62, .tmp 63], #[24, 35]⟩, 4, some (58, true)⟩, [62, 63, 58]), (⟨some 65, .binOp .eql 4 (.tmp 61) (.tmp 64) 4, 4, some (58, true)⟩, [61, 64, 58]), (⟨some 66, .pick (.tmp 58) (.tmp 65) (.const (.bool false)), 4, none⟩, [58, 65]), (⟨some 67, .move (.tmp 66), 4, none⟩, [66]), (⟨some 68, .load 35 (.tmp 10), 35, some (67, true)⟩, [10, 67]), (⟨some 69, .load 35 (.tmp 12), 35, some (67, true)⟩, [12, 67]), (⟨some 70, .call ⟨.value (.func 29), #[.tmp 68, .tmp 69], #[35, 35]⟩, 4, some (67, true)⟩, [68, 69, 67]), (⟨some 71, .pick (.tmp 67) (.tmp 70) (.const (.bool false)), 4, none⟩, [67, 70]), (⟨some 72, .move (.tmp 71), 4, none⟩, [71]), (⟨some 73, .move (.tmp 11), 28, some (72, true)⟩, [11, 72]), (⟨some 74, .move (.tmp 13), 28, some (72, true)⟩, [13, 72]), (⟨some 75, .binOp .eql 28 (.tmp 73) (.tmp 74) 28, 4, some (72, true)⟩, [73, 74, 72]), (⟨some 76, .pick (.tmp 72) (.tmp 75) (.const (.bool false)), 4, none⟩, [72, 75]), (⟨some 6, .assign (.tmp 76), 4, none⟩, [76])] 4 (Q .normal ds) σ w := mk_eq rfl
/-! 11 columbary/columbarylaw13.Fits (params #[24, 25], results #[(.tmp 4)], 45 slots) -/
def W11_0 : List Nat := [4, 7, 8, 31, 32, 33, 34, 35, 36, 37, 38, 39, 40, 41, 42, 43, 44]
@[push_cast] theorem W11_0_def : W11_0 = [4, 7, 8, 31, 32, 33, 34, 35, 36, 37, 38, 39, 40, 41, 42, 43, 44] := mk_eq rfl
def r11_0 : List VOp :=
  [⟨some 2, .box 24 (.tmp 0), 0, none⟩,
   ⟨some 4, .assign (.const (.bool false)), 4, none⟩]
def r11_1 : List VOp :=
  [fad 9 24 2 0,
   lda 10 22 9,
   ⟨some 11, .call ⟨.value (.func 16), #[.tmp 10], #[22]⟩, 4, none⟩,
   asg 5 11 4]
def r11_2 : List VOp :=
  [fad 12 24 2 1,
   lda 13 22 12,
   ⟨some 14, .call ⟨.value (.func 16), #[.tmp 13], #[22]⟩, 4, none⟩,
   asg 6 14 4]
def r11_3 : List VOp :=
  [mv 15 5 4,
   ⟨some 16, .unOp .not 4 (.tmp 15), 4, none⟩,
   mv 17 16 4,
   ⟨some 18, .move (.tmp 6), 4, some (17, false)⟩,
   ⟨some 19, .unOp .not 4 (.tmp 18), 4, some (17, false)⟩,
   ⟨some 20, .pick (.tmp 17) (.const (.bool true)) (.tmp 19), 4, none⟩,
   mv 21 20 4,
   ⟨some 22, .move (.tmp 1), 25, some (21, false)⟩,
   ⟨some 23, .call ⟨.builtin .len, #[.tmp 22], #[25]⟩, 3, some (21, false)⟩,
   ⟨some 24, .binOp .gtr 3 (.tmp 23) (.const (.int .i64 120)) 3, 4, some (21, false)⟩,
   ⟨some 25, .pick (.tmp 21) (.const (.bool true)) (.tmp 24), 4, none⟩,
   mv 26 25 4,
   ⟨some 27, .load 24 (.tmp 2), 24, some (26, false)⟩,
   ⟨some 28, .call ⟨.value (.func 39), #[.tmp 27], #[24]⟩, 4, some (26, false)⟩,
   ⟨some 29, .unOp .not 4 (.tmp 28), 4, some (26, false)⟩,
   ⟨some 30, .pick (.tmp 26) (.const (.bool true)) (.tmp 29), 4, none⟩]
def r11_4 : List VOp :=
  [⟨some 4, .assign (.const (.bool false)), 4, none⟩]
def r11_5 : List VOp :=
  [⟨some 7, .assign (.const (.int .i64 0)), 3, none⟩]
def r11_6 : List VOp :=
  [mv 31 7 3,
   mv 32 1 25,
   ⟨some 33, .call ⟨.builtin .len, #[.tmp 32], #[25]⟩, 3, none⟩,
   ⟨some 34, .binOp .lss 3 (.tmp 31) (.tmp 33) 3, 4, none⟩]
def r11_8 : List VOp :=
  [lda 37 24 2,
   mv 38 1 25,
   mv 39 7 3,
   iad 40 25 38 39,
   lda 41 35 40,
   ⟨some 42, .call ⟨.value (.func 28), #[.tmp 37, .tmp 41], #[24, 35]⟩, 4, none⟩,
   asg 8 42 4]
def r11_9 : List VOp :=
  [mv 43 8 4,
   ⟨some 44, .unOp .not 4 (.tmp 43), 4, none⟩]
def r11_10 : List VOp :=
  [⟨some 4, .assign (.const (.bool false)), 4, none⟩]
def r11_7 : List VOp :=
  [mv 35 7 3,
   ⟨some 36, .binOp .add 3 (.tmp 35) (.const (.int .i64 1)) 3, 3, none⟩,
   asg 7 36 3]
def r11_11 : List VOp :=
  [⟨some 4, .assign (.const (.bool true)), 4, none⟩]
def B11 : VC :=
  (.seq (.region r11_0) (.seq (.region r11_1) (.seq (.region r11_2) (.seq (.seq (.region r11_3) (.cond (.tmp 30) (.seq (.region r11_4) .ret) .skip)) (.seq (.seq (.region r11_5) (.block 0 (.loop (.seq (.seq (.region r11_6) (.cond (.tmp 34) .skip (.exit 0))) (.seq (.block 1 (.seq (.draw r11_8 3) (.seq (.region r11_9) (.cond (.tmp 44) (.seq (.region r11_10) .ret) .skip)))) (.region r11_7)))))) (.seq (.region r11_11) .ret))))))
theorem code11 : ∃ c, Try.f11.body = some c ∧ abs Try.f11.ntmps c = B11 := ⟨_, rfl, by kernel_rfl⟩
theorem hb11 : HasBody Try.prog 11 := hasBody_of Try.func11 (by kernel_rfl)
theorem res11 : Try.f11.results = #[(.tmp 4)] := rfl
theorem enter11 {w : World} {R : Value → World → Prop} (x0 x1 : Value) (h : vc Try.prog B11 (retK Try.prog #[(.tmp 4)] R) [] (initEnv [x0, x1] 0) w) : FnC Try.prog 11 #[x0, x1] w R := by
  obtain ⟨c, h1, h2⟩ := code11
  exact hb11.fn (ret_of_vc mixed Try.func11 h1 (Nat.le_of_ble_eq_true rfl) B11 h2 h)
@[push_cast] theorem vr11_0 : VR r11_0 [⟨some 2, .box 24 (.tmp 0), 0, none⟩, ⟨some 4, .assign (.const (.bool false)), 4, none⟩] := vR rfl
@[push_cast] theorem vr11_1 : VR r11_1 [⟨some 9, .fieldAddr 24 (.tmp 2) 0, 0, none⟩, ⟨some 10, .load 22 (.tmp 9), 22, none⟩, ⟨some 11, .call ⟨.value (.func 16), #[.tmp 10], #[22]⟩, 4, none⟩, ⟨some 5, .assign (.tmp 11), 4, none⟩] := vR rfl
@[push_cast] theorem vr11_2 : VR r11_2 [⟨some 12, .fieldAddr 24 (.tmp 2) 1, 0, none⟩, ⟨some 13, .load 22 (.tmp 12), 22, none⟩, ⟨some 14, .call ⟨.value (.func 16), #[.tmp 13], #[22]⟩, 4, none⟩, ⟨some 6, .assign (.tmp 14), 4, none⟩] := vR rfl
@[push_cast] theorem vr11_3 : VR r11_3 [⟨some 15, .move (.tmp 5), 4, none⟩, ⟨some 16, .unOp .not 4 (.tmp 15), 4, none⟩, ⟨some 17, .move (.tmp 16), 4, none⟩, ⟨some 18, .move (.tmp 6), 4, some (17, false)⟩, ⟨some 19, .unOp .not 4 (.tmp 18), 4, some (17, false)⟩, ⟨some 20, .pick (.tmp 17) (.const (.bool true)) (.tmp 19), 4, none⟩, ⟨some 21, .move (.tmp 20), 4, none⟩, ⟨some 22, .move (.tmp 1), 25, some (21, false)⟩, ⟨some 23, .call ⟨.builtin .len, #[.tmp 22], #[25]⟩, 3, some (21, false)⟩, ⟨some 24, .binOp .gtr 3 (.tmp 23) (.const (.int .i64 120)) 3, 4, some (21, false)⟩, ⟨some 25, .pick (.tmp 21) (.const (.bool true)) (.tmp 24), 4, none⟩, ⟨some 26, .move (.tmp 25), 4, none⟩, ⟨some 27, .load 24 (.tmp 2), 24, some (26, false)⟩, ⟨some 28, .call ⟨.value (.func 39), #[.tmp 27], #[24]⟩, 4, some (26, false)⟩, ⟨some 29, .unOp .not 4 (.tmp 28), 4, some (26, false)⟩, ⟨some 30, .pick (.tmp 26) (.const (.bool true)) (.tmp 29), 4, none⟩] := vR rfl
@[push_cast] theorem vr11_4 : VR r11_4 [⟨some 4, .assign (.const (.bool false)), 4, none⟩] := vR rfl
@[push_cast] theorem vr11_5 : VR r11_5 [⟨some 7, .assign (.const (.int .i64 0)), 3, none⟩] := vR rfl
@[push_cast] theorem vr11_6 : VR r11_6 [⟨some 31, .move (.tmp 7), 3, none⟩, ⟨some 32, .move (.tmp 1), 25, none⟩, ⟨some 33, .call ⟨.builtin .len, #[.tmp 32], #[25]⟩, 3, none⟩, ⟨some 34, .binOp .lss 3 (.tmp 31) (.tmp 33) 3, 4, none⟩] := vR rfl
@[push_cast] theorem vr11_8 : vc Try.prog (.draw r11_8 3) Q ds σ w = drawn Try.prog [(⟨some 37, .load 24 (.tmp 2), 24, none⟩, [2]), (⟨some 38, .move (.tmp 1), 25, none⟩, [1]), (⟨some 39, .move (.tmp 7), 3, none⟩, [7]), (⟨some 40, .indexAddr 25 (.tmp 38) (.tmp 39), 0, none⟩, [38, 39]), (⟨some 41, .load 35 (.tmp 40), 35, none⟩, [40]), (⟨some 42, .call ⟨.value (.func 28), #[.tmp 37, .tmp 41], #[24, 35]⟩, 4, none⟩, [37, 41]), (⟨some 8, .assign (.tmp 42), 4, none⟩, [42])] 3 (Q .normal ds) σ w := mk_eq rfl
@[push_cast] theorem vr11_9 : VR r11_9 [⟨some 43, .move (.tmp 8), 4, none⟩, ⟨some 44, .unOp .not 4 (.tmp 43), 4, none⟩] := vR rfl
@[push_cast] theorem vr11_10 : VR r11_10 [⟨some 4, .assign (.const (.bool false)), 4, none⟩] := vR rfl
@[push_cast] theorem vr11_7 : VR r11_7 [⟨some 35, .move (.tmp 7), 3, none⟩, ⟨some 36, .binOp .add 3 (.tmp 35) (.const (.int .i64 1)) 3, 3, none⟩, ⟨some 7, .assign (.tmp 36), 3, none⟩] := vR rfl
@[push_cast] theorem vr11_11 : VR r11_11 [⟨some 4, .assign (.const (.bool true)), 4, none⟩] := vR rfl
/-! 24 columbary/columbarylaw13.alive (params #[], results #[(.tmp 0)], 77 slots) -/
def r24_0 : List VOp :=
  [⟨some 0, .assign (.const (.bool false)), 4, none⟩]
def r24_1 : List VOp :=
  [⟨some 10, .call ⟨.value (.func 54), #[], #[]⟩, 24, none⟩,
   ⟨some 11, .buildSlice 22 1 #[(0, (.const (.string { data := #[118] })))], 22, none⟩,
   ⟨some 12, .buildSlice 47 1 #[(0, (.const (.int .i64 7)))], 47, none⟩,
   ⟨some 13, .build 49 #[(0, (.const (.int .i64 4))), (1, (.tmp 11)), (2, (.tmp 12))], 49, none⟩,
   ⟨some 14, .call ⟨.value (.func 25), #[.tmp 10, .tmp 13], #[24, 49]⟩, 50, none⟩,
   mv 9 14 50,
   ext 15 9 0 35,
   ext 16 9 1 28,
   ⟨some 1, .alloc 35, 0, none⟩,
   ⟨none, .store 35 (.tmp 1) (.tmp 15), 0, none⟩,
   asg 2 16 28]
def r24_2 : List VOp :=
  [⟨some 18, .call ⟨.value (.func 54), #[], #[]⟩, 24, none⟩,
   ⟨some 19, .buildSlice 22 1 #[(0, (.const (.string { data := #[118] })))], 22, none⟩,
   ⟨some 20, .buildSlice 47 1 #[(0, (.const (.int .i64 (-2))))], 47, none⟩,
   ⟨some 21, .build 49 #[(0, (.const (.int .i64 4))), (1, (.tmp 19)), (2, (.tmp 20))], 49, none⟩,
   ⟨some 22, .call ⟨.value (.func 25), #[.tmp 18, .tmp 21], #[24, 49]⟩, 50, none⟩,
   mv 17 22 50,
   ext 23 17 0 35,
   ext 24 17 1 28,
   ⟨some 3, .alloc 35, 0, none⟩,
   ⟨none, .store 35 (.tmp 3) (.tmp 23), 0, none⟩,
   asg 4 24 28]
def r24_3 : List VOp :=
  [⟨some 26, .call ⟨.value (.func 54), #[], #[]⟩, 24, none⟩,
   ⟨some 27, .buildSlice 22 1 #[(0, (.const (.string { data := #[] })))], 22, none⟩,
   ⟨some 28, .buildSlice 47 1 #[(0, (.const (.int .i64 0)))], 47, none⟩,
   ⟨some 29, .build 49 #[(0, (.const (.int .i64 4))), (1, (.tmp 27)), (2, (.tmp 28))], 49, none⟩,
   ⟨some 30, .call ⟨.value (.func 25), #[.tmp 26, .tmp 29], #[24, 49]⟩, 50, none⟩,
   mv 25 30 50,
   ext 31 25 0 35,
   ext 32 25 1 28,
   ⟨some 5, .alloc 35, 0, none⟩,
   ⟨none, .store 35 (.tmp 5) (.tmp 31), 0, none⟩,
   asg 6 32 28]
def r24_4 : List VOp :=
  [lda 34 35 1,
   lda 35 35 3,
   lda 36 35 5,
   ⟨some 37, .buildSlice 25 3 #[(0, (.tmp 34)), (1, (.tmp 35)), (2, (.tmp 36))], 25, none⟩,
   ⟨some 38, .call ⟨.value (.func 31), #[.tmp 37], #[25]⟩, 29, none⟩,
   mv 33 38 29,
   ext 39 33 0 25,
   ext 40 33 1 28,
   asg 7 39 25,
   asg 8 40 28]
def r24_5 : List VOp :=
  [mv 41 2 28,
   ⟨some 42, .binOp .eql 28 (.tmp 41) (.const (.int .i64 0)) 28, 4, none⟩,
   mv 43 42 4,
   ⟨some 44, .move (.tmp 4), 28, some (43, true)⟩,
   ⟨some 45, .binOp .eql 28 (.tmp 44) (.const (.int .i64 0)) 28, 4, some (43, true)⟩,
   ⟨some 46, .pick (.tmp 43) (.tmp 45) (.const (.bool false)), 4, none⟩,
   mv 47 46 4,
   ⟨some 48, .move (.tmp 6), 28, some (47, true)⟩,
   ⟨some 49, .binOp .eql 28 (.tmp 48) (.const (.int .i64 0)) 28, 4, some (47, true)⟩,
   ⟨some 50, .pick (.tmp 47) (.tmp 49) (.const (.bool false)), 4, none⟩,
   mv 51 50 4,
   ⟨some 52, .move (.tmp 8), 28, some (51, true)⟩,
   ⟨some 53, .binOp .eql 28 (.tmp 52) (.const (.int .i64 0)) 28, 4, some (51, true)⟩,
   ⟨some 54, .pick (.tmp 51) (.tmp 53) (.const (.bool false)), 4, none⟩,
   mv 55 54 4,
   ⟨some 56, .move (.tmp 7), 25, some (55, true)⟩,
   ⟨some 57, .call ⟨.builtin .len, #[.tmp 56], #[25]⟩, 3, some (55, true)⟩,
   ⟨some 58, .binOp .eql 3 (.tmp 57) (.const (.int .i64 2)) 3, 4, some (55, true)⟩,
   ⟨some 59, .pick (.tmp 55) (.tmp 58) (.const (.bool false)), 4, none⟩,
   mv 60 59 4,
   ⟨some 61, .move (.tmp 7), 25, some (60, true)⟩,
   ⟨some 62, .indexAddr 25 (.tmp 61) (.const (.int .i64 1)), 0, some (60, true)⟩,
   ⟨some 63, .fieldAddr 35 (.tmp 62) 2, 0, some (60, true)⟩,
   ⟨some 64, .load 3 (.tmp 63), 3, some (60, true)⟩,
   ⟨some 65, .binOp .eql 3 (.tmp 64) (.const (.int .i64 2)) 3, 4, some (60, true)⟩,
   ⟨some 66, .pick (.tmp 60) (.tmp 65) (.const (.bool false)), 4, none⟩,
   mv 67 66 4,
   ⟨some 68, .move (.tmp 7), 25, some (67, true)⟩,
   ⟨some 69, .indexAddr 25 (.tmp 68) (.const (.int .i64 1)), 0, some (67, true)⟩,
   ⟨some 70, .fieldAddr 35 (.tmp 69) 3, 0, some (67, true)⟩,
   ⟨some 71, .load 33 (.tmp 70), 33, some (67, true)⟩,
   ⟨some 72, .indexAddr 33 (.tmp 71) (.const (.int .i64 0)), 0, some (67, true)⟩,
   ⟨some 73, .load 64 (.tmp 72), 64, some (67, true)⟩,
   ⟨some 74, .build 64 #[(0, (.const (.int .i64 5))), (1, (.const (.int .i64 (-2)))), (2, (.const (.int .i64 7)))], 64, some (67, true)⟩,
   ⟨some 75, .binOp .eql 64 (.tmp 73) (.tmp 74) 64, 4, some (67, true)⟩,
   ⟨some 76, .pick (.tmp 67) (.tmp 75) (.const (.bool false)), 4, none⟩,
   asg 0 76 4]
def B24 : VC :=
  (.seq (.region r24_0) (.seq (.region r24_1) (.seq (.region r24_2) (.seq (.region r24_3) (.seq (.region r24_4) (.seq (.region r24_5) .ret))))))
theorem code24 : ∃ c, Try.f24.body = some c ∧ abs Try.f24.ntmps c = B24 := ⟨_, rfl, by kernel_rfl⟩
theorem hb24 : HasBody Try.prog 24 := hasBody_of Try.func24 (by kernel_rfl)
theorem res24 : Try.f24.results = #[(.tmp 0)] := rfl
theorem enter24 {w : World} {R : Value → World → Prop} (h : vc Try.prog B24 (retK Try.prog #[(.tmp 0)] R) [] (initEnv [] 0) w) : FnC Try.prog 24 #[] w R := by
  obtain ⟨c, h1, h2⟩ := code24
  exact hb24.fn (ret_of_vc mixed Try.func24 h1 (Nat.le_of_ble_eq_true rfl) B24 h2 h)
@[push_cast] theorem vr24_0 : VR r24_0 [⟨some 0, .assign (.const (.bool false)), 4, none⟩] := vR rfl
@[push_cast] theorem vr24_1 : VR r24_1 [⟨some 10, .call ⟨.value (.func 54), #[], #[]⟩, 24, none⟩, ⟨some 11, .buildSlice 22 1 #[(0, (.const (.string { data := #[118] })))], 22, none⟩, ⟨some 12, .buildSlice 47 1 #[(0, (.const (.int .i64 7)))], 47, none⟩, ⟨some 13, .build 49 #[(0, (.const (.int .i64 4))), (1, (.tmp 11)), (2, (.tmp 12))], 49, none⟩, ⟨some 14, .call ⟨.value (.func 25), #[.tmp 10, .tmp 13], #[24, 49]⟩, 50, none⟩, ⟨some 9, .move (.tmp 14), 50, none⟩, ⟨some 15, .extract (.tmp 9) 0, 35, none⟩, ⟨some 16, .extract (.tmp 9) 1, 28, none⟩, ⟨some 1, .alloc 35, 0, none⟩, ⟨none, .store 35 (.tmp 1) (.tmp 15), 0, none⟩, ⟨some 2, .assign (.tmp 16), 28, none⟩] := vR rfl
@[push_cast] theorem vr24_2 : VR r24_2 [⟨some 18, .call ⟨.value (.func 54), #[], #[]⟩, 24, none⟩, ⟨some 19, .buildSlice 22 1 #[(0, (.const (.string { data := #[118] })))], 22, none⟩, ⟨some 20, .buildSlice 47 1 #[(0, (.const (.int .i64 (-2))))], 47, none⟩, ⟨some 21, .build 49 #[(0, (.const (.int .i64 4))), (1, (.tmp 19)), (2, (.tmp 20))], 49, none⟩, ⟨some 22, .call ⟨.value (.func 25), #[.tmp 18, .tmp 21], #[24, 49]⟩, 50, none⟩, ⟨some 17, .move (.tmp 22), 50, none⟩, ⟨some 23, .extract (.tmp 17) 0, 35, none⟩, ⟨some 24, .extract (.tmp 17) 1, 28, none⟩, ⟨some 3, .alloc 35, 0, none⟩, ⟨none, .store 35 (.tmp 3) (.tmp 23), 0, none⟩, ⟨some 4, .assign (.tmp 24), 28, none⟩] := vR rfl
@[push_cast] theorem vr24_3 : VR r24_3 [⟨some 26, .call ⟨.value (.func 54), #[], #[]⟩, 24, none⟩, ⟨some 27, .buildSlice 22 1 #[(0, (.const (.string { data := #[] })))], 22, none⟩, ⟨some 28, .buildSlice 47 1 #[(0, (.const (.int .i64 0)))], 47, none⟩, ⟨some 29, .build 49 #[(0, (.const (.int .i64 4))), (1, (.tmp 27)), (2, (.tmp 28))], 49, none⟩, ⟨some 30, .call ⟨.value (.func 25), #[.tmp 26, .tmp 29], #[24, 49]⟩, 50, none⟩, ⟨some 25, .move (.tmp 30), 50, none⟩, ⟨some 31, .extract (.tmp 25) 0, 35, none⟩, ⟨some 32, .extract (.tmp 25) 1, 28, none⟩, ⟨some 5, .alloc 35, 0, none⟩, ⟨none, .store 35 (.tmp 5) (.tmp 31), 0, none⟩, ⟨some 6, .assign (.tmp 32), 28, none⟩] := vR rfl
@[push_cast] theorem vr24_4 : VR r24_4 [⟨some 34, .load 35 (.tmp 1), 35, none⟩, ⟨some 35, .load 35 (.tmp 3), 35, none⟩, ⟨some 36, .load 35 (.tmp 5), 35, none⟩, ⟨some 37, .buildSlice 25 3 #[(0, (.tmp 34)), (1, (.tmp 35)), (2, (.tmp 36))], 25, none⟩, ⟨some 38, .call ⟨.value (.func 31), #[.tmp 37], #[25]⟩, 29, none⟩, ⟨some 33, .move (.tmp 38), 29, none⟩, ⟨some 39, .extract (.tmp 33) 0, 25, none⟩, ⟨some 40, .extract (.tmp 33) 1, 28, none⟩, ⟨some 7, .assign (.tmp 39), 25, none⟩, ⟨some 8, .assign (.tmp 40), 28, none⟩] := vR rfl
@[push_cast] theorem vr24_5 : VR r24_5 [⟨some 41, .move (.tmp 2), 28, none⟩, ⟨some 42, .binOp .eql 28 (.tmp 41) (.const (.int .i64 0)) 28, 4, none⟩, ⟨some 43, .move (.tmp 42), 4, none⟩, ⟨some 44, .move (.tmp 4), 28, some (43, true)⟩, ⟨some 45, .binOp .eql 28 (.tmp 44) (.const (.int .i64 0)) 28, 4, some (43, true)⟩, ⟨some 46, .pick (.tmp 43) (.tmp 45) (.const (.bool false)), 4, none⟩, ⟨some 47, .move (.tmp 46), 4, none⟩, ⟨some 48, .move (.tmp 6), 28, some (47, true)⟩, ⟨some 49, .binOp .eql 28 (.tmp 48) (.const (.int .i64 0)) 28, 4, some (47, true)⟩, ⟨some 50, .pick (.tmp 47) (.tmp 49) (.const (.bool false)), 4, none⟩, ⟨some 51, .move (.tmp 50), 4, none⟩, ⟨some 52, .move (.tmp 8), 28, some (51, true)⟩, ⟨some 53, .binOp .eql 28 (.tmp 52) (.const (.int .i64 0)) 28, 4, some (51, true)⟩, ⟨some 54, .pick (.tmp 51) (.tmp 53) (.const (.bool false)), 4, none⟩, ⟨some 55, .move (.tmp 54), 4, none⟩, ⟨some 56, .move (.tmp 7), 25, some (55, true)⟩, ⟨some 57, .call ⟨.builtin .len, #[.tmp 56], #[25]⟩, 3, some (55, true)⟩, ⟨some 58, .binOp .eql 3 (.tmp 57) (.const (.int .i64 2)) 3, 4, some (55, true)⟩, ⟨some 59, .pick (.tmp 55) (.tmp 58) (.const (.bool false)), 4, none⟩, ⟨some 60, .move (.tmp 59), 4, none⟩, ⟨some 61, .move (.tmp 7), 25, some (60, true)⟩, ⟨some 62, .indexAddr 25 (.tmp 61) (.const (.int .i64 1)), 0, some (60, true)⟩, ⟨some 63, .fieldAddr 35 (.tmp 62) 2, 0, some (60, true)⟩, ⟨some 64, .load 3 (.tmp 63), 3, some (60, true)⟩, ⟨some 65, .binOp .eql 3 (.tmp 64) (.const (.int .i64 2)) 3, 4, some (60, true)⟩, ⟨some 66, .pick (.tmp 60) (.tmp 65) (.const (.bool false)), 4, none⟩, ⟨some 67, .move (.tmp 66), 4, none⟩, ⟨some 68, .move (.tmp 7), 25, some (67, true)⟩, ⟨some 69, .indexAddr 25 (.tmp 68) (.const (.int .i64 1)), 0, some (67, true)⟩, ⟨some 70, .fieldAddr 35 (.tmp 69) 3, 0, some (67, true)⟩, ⟨some 71, .load 33 (.tmp 70), 33, some (67, true)⟩, ⟨some 72, .indexAddr 33 (.tmp 71) (.const (.int .i64 0)), 0, some (67, true)⟩, ⟨some 73, .load 64 (.tmp 72), 64, some (67, true)⟩, ⟨some 74, .build 64 #[(0, (.const (.int .i64 5))), (1, (.const (.int .i64 (-2)))), (2, (.const (.int .i64 7)))], 64, some (67, true)⟩, ⟨some 75, .binOp .eql 64 (.tmp 73) (.tmp 74) 64, 4, some (67, true)⟩, ⟨some 76, .pick (.tmp 67) (.tmp 75) (.const (.bool false)), 4, none⟩, ⟨some 0, .assign (.tmp 76), 4, none⟩] := vR rfl
@[push_cast] theorem bsl22_1_CodesWL {K : Value → World → Prop} {w : World} (x0 : ByteArray) : vBuildSlice Try.prog 22 1 #[(0, (.string x0))] K w = K (.slice (some ⟨w.heap.size, 0, none⟩) 1 1) (w.alloc (.cells #[(.string x0)] 9)) :=
  vBuildSlice_ok Try.underlying22 ti9 (by kernel_rfl) (by decide)
@[push_cast] theorem bsl25_1_CodesWL {K : Value → World → Prop} {w : World} (x00 x01 x02 x03 : Value) : vBuildSlice Try.prog 25 1 #[(0, (.agg #[x00, x01, x02, x03]))] K w = K (.slice (some ⟨w.heap.size, 0, none⟩) 1 1) (w.alloc (.cells #[x00, x01, x02, x03] 35)) :=
  vBuildSlice_ok Try.underlying25 ti35 (by kernel_rfl) (by decide)
@[push_cast] theorem bsl25_3_CodesWL {K : Value → World → Prop} {w : World} (x00 x01 x02 x03 : Value) (x10 x11 x12 x13 : Value) (x20 x21 x22 x23 : Value) : vBuildSlice Try.prog 25 3 #[(0, (.agg #[x00, x01, x02, x03])), (1, (.agg #[x10, x11, x12, x13])), (2, (.agg #[x20, x21, x22, x23]))] K w = K (.slice (some ⟨w.heap.size, 0, none⟩) 3 3) (w.alloc (.cells #[x00, x01, x02, x03, x10, x11, x12, x13, x20, x21, x22, x23] 35)) :=
  vBuildSlice_ok Try.underlying25 ti35 (by kernel_rfl) (by decide)
@[push_cast] theorem bsl47_1_CodesWL {K : Value → World → Prop} {w : World} (x0 : Int) : vBuildSlice Try.prog 47 1 #[(0, (.int .i64 x0))] K w = K (.slice (some ⟨w.heap.size, 0, none⟩) 1 1) (w.alloc (.cells #[(.int .i64 x0)] 3)) :=
  vBuildSlice_ok Try.underlying47 ti3 (by kernel_rfl) (by decide)
@[push_cast] theorem bld49_0_1_2_CodesWL {K : Value → World → Prop} {w : World} (x0 : Int) (x1o : Option Addr) (x1n x1c : Nat) (x2o : Option Addr) (x2n x2c : Nat) : vBuild Try.prog 49 #[(0, (.int .i64 x0)), (1, (.slice x1o x1n x1c)), (2, (.slice x2o x2n x2c))] K w = K (.agg #[(.int .i64 x0), (.slice x1o x1n x1c), (.slice x2o x2n x2c)]) w :=
  vBuild_ok (by kernel_rfl)
@[push_cast] theorem bld64__CodesWL {K : Value → World → Prop} {w : World}  : vBuild Try.prog 64 #[] K w = K (.agg #[(.int .i64 0), (.int .i64 0), (.int .i64 0)]) w :=
  vBuild_ok (by kernel_rfl)
@[push_cast] theorem bld64_0_1_2_CodesWL {K : Value → World → Prop} {w : World} (x0 : Int) (x1 : Int) (x2 : Int) : vBuild Try.prog 64 #[(0, (.int .i64 x0)), (1, (.int .i64 x1)), (2, (.int .i64 x2))] K w = K (.agg #[(.int .i64 x0), (.int .i64 x1), (.int .i64 x2)]) w :=
  vBuild_ok (by kernel_rfl)
end Go.Proofs.Ythihbgpaoldbjaa
end
