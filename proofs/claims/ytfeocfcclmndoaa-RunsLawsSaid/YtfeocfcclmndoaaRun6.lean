/- Contracts: what two sets come to (the program's loop over the edges). -/
import Derived.Test.YtfeocfcclmndoaaRun5
import Derived.Test.YtfeocfcclmndoaaMem8
set_option linter.unusedSimpArgs false
namespace Go.Proofs.Ytfeocfcclmndoaa
open Go.Vc Go.Run
set_option maxRecDepth 100000
theorem mkends_c (va vb : Value) (w : World) (ha : va.cells = #[va]) (hb : vb.cells = #[vb]) : FnC Try.prog 91 #[va, vb] w fun v w' =>
    v = .func (.func 97) #[] #[.pointer (some ⟨w.heap.size, 0, none⟩), .pointer (some ⟨w.heap.size + 1, 0, none⟩)] ∧ Later w w' ∧ w'.heap.size = w.heap.size + 2 ∧
      Blk w' w.heap.size #[va] 22 ∧ Blk w' (w.heap.size + 1) #[vb] 22 := by
  refine enter91 _ _ ?_
  unfold B91
  repeat' (first | (simp (disch := omega) only [push_cast, ↓reduceIte, Nat.reduceEqDiff, Int.reduceToNat, Nat.reducePow, Int.reducePow, Int.reduceNeg, Nat.reduceMul, Int.reduceMul, Int.reduceAdd, Int.reduceSub, Nat.reduceAdd, Nat.reduceSub, Nat.reduceLeDiff, Int.reduceLT, Int.reduceLE, Int.reduceEq, Int.reduceMod, Int.reduceDiv, reduceCtorEq, not_true_eq_false, not_false_eq_true, ha, hb]) | refine vIfE_of (fun _ => ?_) (fun _ => ?_) | refine vIfD_of (fun _ => ?_) (fun _ => ?_) | refine vIfQ_of (fun _ => ?_) (fun _ => ?_) | refine vIfV_of (fun _ => ?_) (fun _ => ?_) | refine And.intro (by omega) ?_ | refine drawn_q ?_ | fail)
  have b1 := Blk.new w #[va] 22
  have s1 := World.size_alloc w (.cells #[va] 22)
  have l1 := later_alloc w (.cells #[va] 22)
  generalize w.alloc (.cells #[va] 22) = w1 at *
  have b2 := Blk.new w1 #[vb] 22
  have b1 := b1.alloc (.cells #[vb] 22)
  have s2 := World.size_alloc w1 (.cells #[vb] 22)
  have l2 := later_alloc w1 (.cells #[vb] 22)
  generalize w1.alloc (.cells #[vb] 22) = w2 at *
  rw [s1] at b2 ⊢
  exact ⟨rfl, l1.trans l2, by omega, b1, b2⟩
/-- What holds between the rounds: a record at L, the mark at n + 5, the captured function, what has come so far, up to where. -/
structure BothS (op : Bool → Bool → Bool) (a b : S) (f : Value) (w : World) (L : Nat) (o : Obj) (st : Est) (w' : World) : Prop where
  rec_ : w'.heap[L]? = some o
  def_ : w'.heap[w.heap.size + 5]? = some (.deferred (some []))
  later : Later w w'
  fn : Blk w' w.heap.size #[f] 81
  ex : ∃ ov out last, Blk w' (w.heap.size + 1) #[ov] 22 ∧ OwnP w' w.heap.size 63 ov out ∧ Blk w' (w.heap.size + 2) #[.int .i64 last] 3 ∧ Inv op a b st.A st.i st.B st.j last out
theorem BothS.later' {op : Bool → Bool → Bool} {a b : S} {f : Value} {w : World} {L : Nat} {o : Obj} {st : Est} {w1 w2 : World} (h : BothS op a b f w L o st w1) (hl : Later w1 w2) : BothS op a b f w L o st w2 := by
  obtain ⟨h1, h2, h3, h4, ov, out, last, h5, h6, h7, h8⟩ := h
  exact ⟨heap_later h1 hl, heap_later h2 hl, h3.trans hl, h4.chg (Chg.of_later (ks := []) hl) (by simp), ov, out, last, h5.chg (Chg.of_later (ks := []) hl) (by simp), h6.later hl, h7.chg (Chg.of_later (ks := []) hl) (by simp), h8⟩
theorem BothS.ok {op : Bool → Bool → Bool} {a b : S} {f : Value} {w : World} {L : Nat} {o : Obj} {st : Est} {w1 : World} (h : BothS op a b f w L o st w1) : EOk st := by
  obtain ⟨_, _, _, _, ov, out, last, _, _, _, h8⟩ := h
  exact EOk.of h8
/-- A block of the iterator's own is written. -/
theorem BothS.set {op : Bool → Bool → Bool} {a b : S} {f : Value} {w : World} {L : Nat} {o : Obj} {st : Est} {w1 w2 : World} {k : Nat} {cs : Array Value} {t : TypeId} (ho : o.isCells = false) (ht : t = 122 ∨ t = 108) (h : BothS op a b f w L o st w1) (hk : Blk w1 k cs t) (g : Chg w1 w2 [k]) (hkw : w.heap.size ≤ k) : BothS op a b f w L o st w2 := by
  obtain ⟨h1, h2, h3, h4, ov, out, last, h5, h6, h7, h8⟩ := h
  have ne_cell : ∀ {j : Nat} {cs' : Array Value} {t' : TypeId}, Blk w1 j cs' t' → t' ≠ t → j ∉ [k] := by
    intro j cs' t' hj hne hm
    simp only [List.mem_singleton] at hm
    subst hm
    unfold Blk at hj hk
    rw [hj] at hk
    simp only [Option.some.injEq, Obj.cells.injEq] at hk
    exact hne hk.2.1
  have ne_o : ∀ {j : Nat} {o' : Obj}, w1.heap[j]? = some o' → o'.isCells = false → j ∉ [k] := by
    intro j o' hj ho' hm
    simp only [List.mem_singleton] at hm
    subst hm
    unfold Blk at hk
    rw [hj] at hk
    simp only [Option.some.injEq] at hk
    subst hk
    simp [Obj.isCells] at ho'
  have hne : ∀ {t' : TypeId}, t' ≠ 122 → t' ≠ 108 → t' ≠ t := by
    intro t' a1 a2
    rcases ht with rfl | rfl
    · exact a1
    · exact a2
  exact ⟨heap_chg h1 g (ne_o h1 ho), heap_chg h2 g (ne_o h2 rfl), g.later h3 (by simpa using hkw), h4.chg g (ne_cell h4 (hne (by decide) (by decide))), ov, out, last, h5.chg g (ne_cell h5 (hne (by decide) (by decide))),
    own_chg_ty h6 hk (hne (by decide) (by decide)) g, h7.chg g (ne_cell h7 (hne (by decide) (by decide))), h8⟩
theorem BothS.fin {op : Bool → Bool → Bool} {a b : S} {f : Value} {w : World} {L : Nat} {o o' : Obj} {i j : Bool} {w4 : World} (hop : op false false = false) (h : BothS op a b f w L o ⟨[], i, [], j⟩ w4) (ho : o.isCells = false) (hL : L = w.heap.size + 6) :
    ∃ ov, (w4.putObj L o').cell? ⟨w.heap.size + 1, 0, none⟩ = some ov ∧ (w4.putObj L o').heap[w.heap.size + 5]? = some (.deferred (some [])) ∧
      IsC op a b ((w4.putObj L o').putObj (w.heap.size + 5) (.deferred none)) w.heap.size ov ∧ Later w ((w4.putObj L o').putObj (w.heap.size + 5) (.deferred none)) := by
  obtain ⟨h1, h2, h3, h4, ov, out, last, h5, h6, h7, h8⟩ := h
  have g1 := chg_putObj w4 (L := L) (ks := [L]) (by simp) o'
  have h2' := heap_chg h2 g1 (by simp; omega)
  have h6' := own_obj h6 h1 ho g1
  have g2 := chg_putObj (w4.putObj L o') (L := w.heap.size + 5) (ks := [w.heap.size + 5]) (by simp) (.deferred none)
  exact ⟨ov, (h5.chg g1 (by simp; omega)).cell 0, h2', ⟨out, own_obj h6' h2' rfl g2, h8.rt, h8.fin hop⟩, g2.later (g1.later h3 (by simp; omega)) (by simp)⟩
set_option maxHeartbeats 2000000 in
theorem both_c (va vb : Value) (a b : S) (f : FuncId) (op : Bool → Bool → Bool) (hop : op false false = false) (hb : HasBody Try.prog f) (hf : ∀ (x y : Bool) (w : World), FnC Try.prog f #[.bool x, .bool y] w fun v w' => v = .bool (op x y) ∧ Later w w')
    (w : World) (hA : PairS w va a) (hB : PairS w vb b) (ha : Rt (-1) a) (hb : Rt (-1) b) :
    FnC Try.prog 68 #[va, vb, .func (.func f) #[] #[]] w fun r w' => IsC op a b w' w.heap.size r ∧ Later w w' := by
  refine enter68 _ _ _ ?_
  unfold B68
  have ec : (Value.func (.func f) #[] #[]).cells = #[.func (.func f) #[] #[]] := rfl
  repeat' (first | (simp (disch := omega) only [push_cast, ↓reduceIte, Nat.reduceEqDiff, Int.reduceToNat, Nat.reducePow, Int.reducePow, Int.reduceNeg, Nat.reduceMul, Int.reduceMul, Int.reduceAdd, Int.reduceSub, Nat.reduceAdd, Nat.reduceSub, Nat.reduceLeDiff, Int.reduceLT, Int.reduceLE, Int.reduceEq, Int.reduceMod, Int.reduceDiv, reduceCtorEq, not_true_eq_false, not_false_eq_true, ec]) | refine vIfE_of (fun _ => ?_) (fun _ => ?_) | refine vIfD_of (fun _ => ?_) (fun _ => ?_) | refine vIfQ_of (fun _ => ?_) (fun _ => ?_) | refine vIfV_of (fun _ => ?_) (fun _ => ?_) | refine And.intro (by omega) ?_ | refine drawn_q ?_ | fail)
  have hca : va.cells = #[va] := by obtain ⟨o, c, e⟩ := slice_of hA; rw [e]; rfl
  have hcb : vb.cells = #[vb] := by obtain ⟨o, c, e⟩ := slice_of hB; rw [e]; rfl
  generalize hfv : Value.func (.func f) #[] #[] = fv at *
  have B0 := Blk.new w #[fv] 81
  have s0 := World.size_alloc w (.cells #[fv] 81)
  have l0 := later_alloc w (.cells #[fv] 81)
  generalize w.alloc (.cells #[fv] 81) = w1 at *
  have B1 := Blk.new w1 #[.slice none 0 0] 22
  have s1 := World.size_alloc w1 (.cells #[.slice none 0 0] 22)
  have l1 := later_alloc w1 (.cells #[.slice none 0 0] 22)
  generalize w1.alloc (.cells #[.slice none 0 0] 22) = w2 at *
  have B2 := Blk.new w2 #[.int .i64 0] 3
  have s2 := World.size_alloc w2 (.cells #[.int .i64 0] 3)
  have l2 := later_alloc w2 (.cells #[.int .i64 0] 3)
  generalize w2.alloc (.cells #[.int .i64 0] 3) = w3 at *
  have s1 : w2.heap.size = w.heap.size + 2 := by omega
  have s2 : w3.heap.size = w.heap.size + 3 := by omega
  rw [s0] at B1
  rw [s1] at B2
  refine (mkends_c va vb w3 hca hcb).mono ?_
  rintro _ w4 ⟨rfl, l3, s4, bA, bB⟩
  rw [s2] at bA bB s4 ⊢
  repeat' (first | (simp (disch := omega) only [push_cast, ↓reduceIte, Nat.reduceEqDiff, Int.reduceToNat, Nat.reducePow, Int.reducePow, Int.reduceNeg, Nat.reduceMul, Int.reduceMul, Int.reduceAdd, Int.reduceSub, Nat.reduceAdd, Nat.reduceSub, Nat.reduceLeDiff, Int.reduceLT, Int.reduceLE, Int.reduceEq, Int.reduceMod, Int.reduceDiv, reduceCtorEq, not_true_eq_false, not_false_eq_true]) | refine vIfE_of (fun _ => ?_) (fun _ => ?_) | refine vIfD_of (fun _ => ?_) (fun _ => ?_) | refine vIfQ_of (fun _ => ?_) (fun _ => ?_) | refine vIfV_of (fun _ => ?_) (fun _ => ?_) | refine And.intro (by omega) ?_ | refine drawn_q ?_ | fail)
  refine rngC_of hb97 ?_
  rintro D L rec hrec hD hL hyl
  have hDe : D = w.heap.size + 5 := by omega
  have hLe : L = w.heap.size + 6 := by omega
  have hrL : ((w4.alloc (.deferred (some []))).alloc (rec .ready .normal)).heap[L]? = some (rec .ready .normal) := by
    have := World.alloc_heap_new (w4.alloc (.deferred (some []))) (rec .ready .normal)
    rw [World.size_alloc] at this
    rw [hL]; exact this
  have hrD : ((w4.alloc (.deferred (some []))).alloc (rec .ready .normal)).heap[D]? = some (.deferred (some [])) := by
    rw [hD]
    exact heap_later (World.alloc_heap_new w4 _) (later_alloc _ _)
  have l4 := later_two w4 (.deferred (some [])) (rec .ready .normal)
  generalize (w4.alloc (.deferred (some []))).alloc (rec .ready .normal) = w5 at *
  subst hDe
  have lA := (l1.trans (l2.trans (l3.trans l4)))
  have lB := (l2.trans (l3.trans l4))
  have lC := l3.trans l4
  have hS0 : BothS op a b fv w L (rec .ready .normal) ⟨a, false, b, false⟩ w5 :=
    ⟨hrL, hrD, l0.trans lA, B0.chg (Chg.of_later (ks := []) lA) (by simp), _, [], 0, B1.chg (Chg.of_later (ks := []) lB) (by simp), OwnP.nil _ _ _, B2.chg (Chg.of_later (ks := []) lC) (by simp), Inv.start hop ha hb⟩
  have bA5 := bA.chg (Chg.of_later (ks := []) l4) (by simp)
  have bB5 := bB.chg (Chg.of_later (ks := []) l4) (by simp)
  have hst := ends_c L (w.heap.size + 3) (w.heap.size + 3 + 1) a b va vb w w5 (fun st w' => BothS op a b fv w L (rec .ready .normal) st w') hA hB bA5 bB5 hS0
    (fun st w1 h => ⟨h.later, h.ok⟩) (fun st w1 w2 h hl => h.later' hl) (fun st w1 w2 k cs t ht hk h hb g => h.set (hrec _ _) ht hb g hk) ?_
  · refine hst.mono ?_
    rintro _ w6 ⟨i, j, hS⟩
    obtain ⟨ov, c1, hd, ho, hl⟩ := hS.fin (o' := rec .exhausted .normal) hop (hrec _ _) hLe
    refine .inl ⟨hS.rec_, ?_⟩
    repeat' (first | (simp (disch := omega) only [push_cast, ↓reduceIte, Nat.reduceEqDiff, Int.reduceToNat, Nat.reducePow, Int.reducePow, Int.reduceNeg, Nat.reduceMul, Int.reduceMul, Int.reduceAdd, Int.reduceSub, Nat.reduceAdd, Nat.reduceSub, Nat.reduceLeDiff, Int.reduceLT, Int.reduceLE, Int.reduceEq, Int.reduceMod, Int.reduceDiv, reduceCtorEq, not_true_eq_false, not_false_eq_true, s0, s1, c1]) | refine vIfE_of (fun _ => ?_) (fun _ => ?_) | refine vIfD_of (fun _ => ?_) (fun _ => ?_) | refine vIfQ_of (fun _ => ?_) (fun _ => ?_) | refine vIfV_of (fun _ => ?_) (fun _ => ?_) | refine And.intro (by omega) ?_ | refine drawn_q ?_ | fail)
    first | exact ⟨hd, ho, hl⟩ | exact ⟨ho, hl⟩ | exact hl
  · rintro st u1 ks ki cs ci hS1 hne hks hki
    refine hyl _ u1 _ ?_
    unfold Rnd
    refine ⟨hS1.rec_, rfl, ?_⟩
    have hnext : Est.next st = ⟨nextS st.A st.i st.at, nextI st.A st.i st.at, nextS st.B st.j st.at, nextI st.B st.j st.at⟩ := rfl
    have hat : atOf st.A st.i st.B st.j = st.at := rfl
    repeat' (first | (simp (disch := omega) only [push_cast, ↓reduceIte, Nat.reduceEqDiff, Int.reduceToNat, Nat.reducePow, Int.reducePow, Int.reduceNeg, Nat.reduceMul, Int.reduceMul, Int.reduceAdd, Int.reduceSub, Nat.reduceAdd, Nat.reduceSub, Nat.reduceLeDiff, Int.reduceLT, Int.reduceLE, Int.reduceEq, Int.reduceMod, Int.reduceDiv, reduceCtorEq, not_true_eq_false, not_false_eq_true]) | refine vIfE_of (fun _ => ?_) (fun _ => ?_) | refine vIfD_of (fun _ => ?_) (fun _ => ?_) | refine vIfQ_of (fun _ => ?_) (fun _ => ?_) | refine vIfV_of (fun _ => ?_) (fun _ => ?_) | refine And.intro (by omega) ?_ | refine drawn_q ?_ | fail)
    refine vStore_new rfl rfl (by intro u hu; simp only [List.mem_cons, List.not_mem_nil, or_false] at hu; rcases hu with rfl | rfl <;> rfl) ?_
    have la := later_alloc u1 (.cells #[.bool st.i, .bool st.j] 108)
    have Ba := Blk.new u1 #[.bool st.i, .bool st.j] 108
    have hu1L : L < u1.heap.size := (Array.getElem?_eq_some_iff.1 hS1.rec_).1
    have hks := hks.chg (Chg.of_later (ks := []) la) (by simp)
    have hki := hki.chg (Chg.of_later (ks := []) la) (by simp)
    have hS2 := hS1.later' la
    generalize hka : u1.heap.size = ka at *
    generalize u1.alloc (.cells #[.bool st.i, .bool st.j] 108) = u2 at *
    obtain ⟨r1, r2, r3, r4, ov, out, last, r5, r6, r7, r8⟩ := hS2
    have hround := r8.round hne
    rw [hat] at hround
    obtain ⟨hr1, hr2, hr3⟩ := hround
    have hol := right_len r8.rt
    have hin := r8.lo
    generalize st.at = at' at *
    have ne_L : ∀ {u : World} {k : Nat} {cs : Array Value} {t : TypeId} {s : LoopState} {e : Exit}, u.heap[L]? = some (rec s e) → Blk u k cs t → k ∉ [L] := by
      intro u k cs t s e hr hk hm
      simp only [List.mem_singleton] at hm
      subst hm
      unfold Blk at hk
      rw [hr] at hk
      simp only [Option.some.injEq] at hk
      have := hrec s e
      rw [hk] at this
      simp [Obj.isCells] at this
    have ne_ty : ∀ {u : World} {k k' : Nat} {cs cs' : Array Value} {t t' : TypeId}, Blk u k cs t → Blk u k' cs' t' → t ≠ t' → k ∉ [k'] := by
      intro u k k' cs cs' t t' hk hk' hne hm
      simp only [List.mem_singleton] at hm
      subst hm
      unfold Blk at hk hk'
      rw [hk] at hk'
      simp only [Option.some.injEq, Obj.cells.injEq] at hk'
      exact hne hk'.2.1
    have cells_ne : ∀ {k : Nat} {cs : Array Value} {t : TypeId}, Blk u2 k cs t → k ∉ [L] := fun hk => ne_L r1 hk
    repeat' (first | (simp (disch := omega) only [push_cast, ↓reduceIte, Nat.reduceEqDiff, Int.reduceToNat, Nat.reducePow, Int.reducePow, Int.reduceNeg, Nat.reduceMul, Int.reduceMul, Int.reduceAdd, Int.reduceSub, Nat.reduceAdd, Nat.reduceSub, Nat.reduceLeDiff, Int.reduceLT, Int.reduceLE, Int.reduceEq, Int.reduceMod, Int.reduceDiv, reduceCtorEq, not_true_eq_false, not_false_eq_true]) | refine vIfE_of (fun _ => ?_) (fun _ => ?_) | refine vIfD_of (fun _ => ?_) (fun _ => ?_) | refine vIfQ_of (fun _ => ?_) (fun _ => ?_) | refine vIfV_of (fun _ => ?_) (fun _ => ?_) | refine And.intro (by omega) ?_ | refine drawn_q ?_ | fail)
    have gL := chg_putObj u2 (L := L) (ks := [L]) (by simp) (rec .busy .normal)
    have q1 : (u2.putObj L (rec .busy .normal)).heap[L]? = some (rec .busy .normal) := World.putObj_heap_same (Array.getElem?_eq_some_iff.1 r1).1
    have q2 := heap_chg r2 gL (by simp; omega)
    have q3 := gL.later r3 (by simp; omega)
    have q4 := r4.chg gL (cells_ne r4)
    have q5 := r5.chg gL (cells_ne r5)
    have q6 : OwnP _ w.heap.size 63 ov out := own_obj r6 r1 (hrec _ _) gL
    have q7 := r7.chg gL (cells_ne r7)
    have qa := Ba.chg gL (cells_ne Ba)
    have qs := hks.chg gL (cells_ne hks)
    have qi := hki.chg gL (cells_ne hki)
    generalize u2.putObj L (rec .busy .normal) = u3 at *
    have cl : u3.cell? ⟨w.heap.size + 2, 0, none⟩ = some (.int .i64 last) := q7.cell 0
    have cf : u3.cell? ⟨w.heap.size, 0, none⟩ = some fv := q4.cell 0
    have ci0 : u3.cell? ⟨ka, 0, none⟩ = some (.bool st.i) := qa.cell 0
    have ci1 : u3.cell? ⟨ka, 1, none⟩ = some (.bool st.j) := qa.cell 1
    subst hfv
    -- where the round ends: the last place is written, the record is ready again
    have fin : ∀ (u4 : World) (ov' : Value) (out' : S), u4.heap[L]? = some (rec .busy .normal) → u4.heap[w.heap.size + 5]? = some (.deferred (some [])) → Later w u4 → Blk u4 w.heap.size #[.func (.func f) #[] #[]] 81 →
        Blk u4 (w.heap.size + 1) #[ov'] 22 → OwnP u4 w.heap.size 63 ov' out' → Blk u4 (w.heap.size + 2) #[.int .i64 last] 3 → Blk u4 ks cs 122 → Blk u4 ki ci 108 → out' = outOf op st.i st.j last at' out →
        u4.frozen? ⟨w.heap.size + 2, 0, none⟩ = false ∧ (u4.setCell ⟨w.heap.size + 2, 0, none⟩ (.int .i64 at')).heap[L]? = some (rec .busy .normal) ∧
        BothS op a b (.func (.func f) #[] #[]) w L (rec .ready .normal) st.next ((u4.setCell ⟨w.heap.size + 2, 0, none⟩ (.int .i64 at')).putObj L (rec .ready .normal)) ∧
        Blk ((u4.setCell ⟨w.heap.size + 2, 0, none⟩ (.int .i64 at')).putObj L (rec .ready .normal)) ks cs 122 ∧ Blk ((u4.setCell ⟨w.heap.size + 2, 0, none⟩ (.int .i64 at')).putObj L (rec .ready .normal)) ki ci 108 := by
      intro u4 ov' out' t1 t2 t3 t4 t5 t6 t7 ts ti e
      have g3 := chg_setCell (i := 0) u4 (ks := [w.heap.size + 2]) (k := w.heap.size + 2) (by simp) (.int .i64 at')
      have z1 := heap_chg t1 g3 (by simp; omega)
      have z2 := heap_chg t2 g3 (by simp)
      have z3 := g3.later t3 (by simp)
      have z4 := t4.chg g3 (by simp)
      have z5 := t5.chg g3 (by simp)
      have z6 : OwnP _ w.heap.size 63 ov' out' := own_chg_ty t6 t7 (by decide) g3
      have z7 := t7.set 0 (.int .i64 at')
      have zs := ts.chg g3 (ne_ty ts t7 (by decide))
      have zi := ti.chg g3 (ne_ty ti t7 (by decide))
      have hfz := t7.frozen 0
      have e7 : (#[Value.int .i64 last] : Array Value).setIfInBounds 0 (.int .i64 at') = #[.int .i64 at'] := rfl
      rw [e7] at z7
      generalize u4.setCell ⟨w.heap.size + 2, 0, none⟩ (.int .i64 at') = u5 at *
      have gE := chg_putObj u5 (L := L) (ks := [L]) (by simp) (rec .ready .normal)
      refine ⟨hfz, z1, ⟨World.putObj_heap_same (Array.getElem?_eq_some_iff.1 z1).1, heap_chg z2 gE (by simp; omega), gE.later z3 (by simp; omega), z4.chg gE (ne_L z1 z4), ov', out', at', z5.chg gE (ne_L z1 z5), own_obj z6 z1 (hrec _ _) gE, z7.chg gE (ne_L z1 z7), ?_⟩, zs.chg gE (ne_L z1 zs), zi.chg gE (ne_L z1 zi)⟩
      rw [hnext, e]; exact hr3
    by_cases hlt : last < at'
    · repeat' (first | (simp (disch := omega) only [push_cast, ↓reduceIte, Nat.reduceEqDiff, Int.reduceToNat, Nat.reducePow, Int.reducePow, Int.reduceNeg, Nat.reduceMul, Int.reduceMul, Int.reduceAdd, Int.reduceSub, Nat.reduceAdd, Nat.reduceSub, Nat.reduceLeDiff, Int.reduceLT, Int.reduceLE, Int.reduceEq, Int.reduceMod, Int.reduceDiv, reduceCtorEq, not_true_eq_false, not_false_eq_true, s0, s1, cl, cf, ci0, ci1]) | refine vIfE_of (fun _ => ?_) (fun _ => ?_) | refine vIfD_of (fun _ => ?_) (fun _ => ?_) | refine vIfQ_of (fun _ => ?_) (fun _ => ?_) | refine vIfV_of (fun _ => ?_) (fun _ => ?_) | refine And.intro (by omega) ?_ | refine drawn_q ?_ | fail)
      refine (hf st.i st.j u3).mono ?_
      rintro _ u4 ⟨rfl, hl4⟩
      have lc := Chg.of_later (ks := []) hl4
      have q1 := heap_later q1 hl4
      have q2 := heap_later q2 hl4
      have q3 := q3.trans hl4
      have q4 := q4.chg lc (by simp)
      have q5 := q5.chg lc (by simp)
      have q6 := q6.later hl4
      have q7 := q7.chg lc (by simp)
      have qs := qs.chg lc (by simp)
      have qi := qi.chg lc (by simp)
      by_cases ho : op st.i st.j = true
      · have co : u4.cell? ⟨w.heap.size + 1, 0, none⟩ = some ov := q5.cell 0
        have cl : u4.cell? ⟨w.heap.size + 2, 0, none⟩ = some (.int .i64 last) := q7.cell 0
        repeat' (first | (simp (disch := omega) only [push_cast, ↓reduceIte, Nat.reduceEqDiff, Int.reduceToNat, Nat.reducePow, Int.reducePow, Int.reduceNeg, Nat.reduceMul, Int.reduceMul, Int.reduceAdd, Int.reduceSub, Nat.reduceAdd, Nat.reduceSub, Nat.reduceLeDiff, Int.reduceLT, Int.reduceLE, Int.reduceEq, Int.reduceMod, Int.reduceDiv, reduceCtorEq, not_true_eq_false, not_false_eq_true, s0, s1, ho, co, cl]) | refine vIfE_of (fun _ => ?_) (fun _ => ?_) | refine vIfD_of (fun _ => ?_) (fun _ => ?_) | refine vIfQ_of (fun _ => ?_) (fun _ => ?_) | refine vIfV_of (fun _ => ?_) (fun _ => ?_) | refine And.intro (by omega) ?_ | refine drawn_q ?_ | fail)
        refine (with_c ov out last at' w.heap.size u4 q6 q3.size (by omega)).mono ?_
        rintro v u5 ⟨hO, hC, hE⟩
        have q1 := heap_chg q1 hC (ne_obj q6 q1 (hrec _ _))
        have q2 := heap_chg q2 hC (ne_obj q6 q2 rfl)
        have q3 := hC.later q3 (own_ge q6)
        have q4 := q4.chg hC (ne_own q6 q4 (by decide))
        have q5 := q5.chg hC (ne_own q6 q5 (by decide))
        have q7 := q7.chg hC (ne_own q6 q7 (by decide))
        have qs := qs.chg hC (ne_own q6 qs (by decide))
        have qi := qi.chg hC (ne_own q6 qi (by decide))
        have cex : ∃ y, u5.cell? ⟨w.heap.size + 1, 0, none⟩ = some y := ⟨_, q5.cell 0⟩
        have hfz := q5.frozen 0
        obtain ⟨o5, c5, hv5⟩ := slice_of hO.s
        generalize hn5 : (wth out (last, at')).length = n5 at *
        subst hv5
        repeat' (first | (simp (disch := omega) only [push_cast, ↓reduceIte, Nat.reduceEqDiff, Int.reduceToNat, Nat.reducePow, Int.reducePow, Int.reduceNeg, Nat.reduceMul, Int.reduceMul, Int.reduceAdd, Int.reduceSub, Nat.reduceAdd, Nat.reduceSub, Nat.reduceLeDiff, Int.reduceLT, Int.reduceLE, Int.reduceEq, Int.reduceMod, Int.reduceDiv, reduceCtorEq, not_true_eq_false, not_false_eq_true, s0, s1, hfz, cex]) | refine vIfE_of (fun _ => ?_) (fun _ => ?_) | refine vIfD_of (fun _ => ?_) (fun _ => ?_) | refine vIfQ_of (fun _ => ?_) (fun _ => ?_) | refine vIfV_of (fun _ => ?_) (fun _ => ?_) | refine And.intro (by omega) ?_ | refine drawn_q ?_ | fail)
        have g6 := chg_setCell (i := 0) u5 (ks := [w.heap.size + 1]) (k := w.heap.size + 1) (by simp) (.slice o5 n5 c5)
        have z1 := heap_chg q1 g6 (by simp; omega)
        have z2 := heap_chg q2 g6 (by simp)
        have z3 := g6.later q3 (by simp)
        have z4 := q4.chg g6 (by simp)
        have z5 := q5.set 0 (.slice o5 n5 c5)
        have z6 : OwnP _ w.heap.size 63 (.slice o5 n5 c5) (wth out (last, at')) := own_chg_ty hO q5 (by decide) g6
        have z7 := q7.chg g6 (by simp)
        have zs := qs.chg g6 (ne_ty qs q5 (by decide))
        have zi := qi.chg g6 (ne_ty qi q5 (by decide))
        have e5 : (#[ov] : Array Value).setIfInBounds 0 (.slice o5 n5 c5) = #[.slice o5 n5 c5] := rfl
        rw [e5] at z5
        generalize u5.setCell ⟨w.heap.size + 1, 0, none⟩ (.slice o5 n5 c5) = u6 at *
        exact ⟨⟨_, z7.cell 0⟩, fin u6 _ (wth out (last, at')) z1 z2 z3 z4 z5 z6 z7 zs zi (by unfold outOf; rw [if_pos ⟨hlt, ho⟩])⟩
      · have ho' : op st.i st.j = false := by simpa using ho
        have cl : u4.cell? ⟨w.heap.size + 2, 0, none⟩ = some (.int .i64 last) := q7.cell 0
        repeat' (first | (simp (disch := omega) only [push_cast, ↓reduceIte, Nat.reduceEqDiff, Int.reduceToNat, Nat.reducePow, Int.reducePow, Int.reduceNeg, Nat.reduceMul, Int.reduceMul, Int.reduceAdd, Int.reduceSub, Nat.reduceAdd, Nat.reduceSub, Nat.reduceLeDiff, Int.reduceLT, Int.reduceLE, Int.reduceEq, Int.reduceMod, Int.reduceDiv, reduceCtorEq, not_true_eq_false, not_false_eq_true, s0, s1, ho', cl]) | refine vIfE_of (fun _ => ?_) (fun _ => ?_) | refine vIfD_of (fun _ => ?_) (fun _ => ?_) | refine vIfQ_of (fun _ => ?_) (fun _ => ?_) | refine vIfV_of (fun _ => ?_) (fun _ => ?_) | refine And.intro (by omega) ?_ | refine drawn_q ?_ | fail)
        exact fin u4 ov out q1 q2 q3 q4 q5 q6 q7 qs qi (by unfold outOf; rw [if_neg (fun h => ho h.2)])
    · repeat' (first | (simp (disch := omega) only [push_cast, ↓reduceIte, Nat.reduceEqDiff, Int.reduceToNat, Nat.reducePow, Int.reducePow, Int.reduceNeg, Nat.reduceMul, Int.reduceMul, Int.reduceAdd, Int.reduceSub, Nat.reduceAdd, Nat.reduceSub, Nat.reduceLeDiff, Int.reduceLT, Int.reduceLE, Int.reduceEq, Int.reduceMod, Int.reduceDiv, reduceCtorEq, not_true_eq_false, not_false_eq_true, s0, s1, cl]) | refine vIfE_of (fun _ => ?_) (fun _ => ?_) | refine vIfD_of (fun _ => ?_) (fun _ => ?_) | refine vIfQ_of (fun _ => ?_) (fun _ => ?_) | refine vIfV_of (fun _ => ?_) (fun _ => ?_) | refine And.intro (by omega) ?_ | refine drawn_q ?_ | fail)
      exact fin u3 ov out q1 q2 q3 q4 q5 q6 q7 qs qi (by unfold outOf; rw [if_neg (fun h => hlt h.1)])
theorem andF_c (x y : Bool) (w : World) : FnC Try.prog 69 #[.bool x, .bool y] w fun v w' => v = .bool (opA x y) ∧ Later w w' := by
  refine enter69 _ _ ?_
  unfold B69 opA
  cases x <;> repeat' (first | (simp (disch := omega) only [push_cast, ↓reduceIte, Nat.reduceEqDiff, Int.reduceToNat, Nat.reducePow, Int.reducePow, Int.reduceNeg, Nat.reduceMul, Int.reduceMul, Int.reduceAdd, Int.reduceSub, Nat.reduceAdd, Nat.reduceSub, Nat.reduceLeDiff, Int.reduceLT, Int.reduceLE, Int.reduceEq, Int.reduceMod, Int.reduceDiv, reduceCtorEq, not_true_eq_false, not_false_eq_true]) | refine vIfE_of (fun _ => ?_) (fun _ => ?_) | refine vIfD_of (fun _ => ?_) (fun _ => ?_) | refine vIfQ_of (fun _ => ?_) (fun _ => ?_) | refine vIfV_of (fun _ => ?_) (fun _ => ?_) | refine And.intro (by omega) ?_ | refine drawn_q ?_ | fail) <;> exact Later.refl _
theorem orF_c (x y : Bool) (w : World) : FnC Try.prog 71 #[.bool x, .bool y] w fun v w' => v = .bool (opO x y) ∧ Later w w' := by
  refine enter71 _ _ ?_
  unfold B71 opO
  cases x <;> repeat' (first | (simp (disch := omega) only [push_cast, ↓reduceIte, Nat.reduceEqDiff, Int.reduceToNat, Nat.reducePow, Int.reducePow, Int.reduceNeg, Nat.reduceMul, Int.reduceMul, Int.reduceAdd, Int.reduceSub, Nat.reduceAdd, Nat.reduceSub, Nat.reduceLeDiff, Int.reduceLT, Int.reduceLE, Int.reduceEq, Int.reduceMod, Int.reduceDiv, reduceCtorEq, not_true_eq_false, not_false_eq_true]) | refine vIfE_of (fun _ => ?_) (fun _ => ?_) | refine vIfD_of (fun _ => ?_) (fun _ => ?_) | refine vIfQ_of (fun _ => ?_) (fun _ => ?_) | refine vIfV_of (fun _ => ?_) (fun _ => ?_) | refine And.intro (by omega) ?_ | refine drawn_q ?_ | fail) <;> exact Later.refl _
theorem minusF_c (x y : Bool) (w : World) : FnC Try.prog 72 #[.bool x, .bool y] w fun v w' => v = .bool (opM x y) ∧ Later w w' := by
  refine enter72 _ _ ?_
  unfold B72 opM
  cases x <;> repeat' (first | (simp (disch := omega) only [push_cast, ↓reduceIte, Nat.reduceEqDiff, Int.reduceToNat, Nat.reducePow, Int.reducePow, Int.reduceNeg, Nat.reduceMul, Int.reduceMul, Int.reduceAdd, Int.reduceSub, Nat.reduceAdd, Nat.reduceSub, Nat.reduceLeDiff, Int.reduceLT, Int.reduceLE, Int.reduceEq, Int.reduceMod, Int.reduceDiv, reduceCtorEq, not_true_eq_false, not_false_eq_true]) | refine vIfE_of (fun _ => ?_) (fun _ => ?_) | refine vIfD_of (fun _ => ?_) (fun _ => ?_) | refine vIfQ_of (fun _ => ?_) (fun _ => ?_) | refine vIfV_of (fun _ => ?_) (fun _ => ?_) | refine And.intro (by omega) ?_ | refine drawn_q ?_ | fail) <;> exact Later.refl _
theorem and_c (va vb : Value) (a b : S) (w : World) (hA : PairS w va a) (hB : PairS w vb b) (ha : Rt (-1) a) (hb : Rt (-1) b) : FnC Try.prog 35 #[va, vb] w fun r w' => IsC opA a b w' w.heap.size r ∧ Later w w' := by
  refine enter35 _ _ ?_
  unfold B35
  repeat' (first | (simp (disch := omega) only [push_cast, ↓reduceIte, Nat.reduceEqDiff, Int.reduceToNat, Nat.reducePow, Int.reducePow, Int.reduceNeg, Nat.reduceMul, Int.reduceMul, Int.reduceAdd, Int.reduceSub, Nat.reduceAdd, Nat.reduceSub, Nat.reduceLeDiff, Int.reduceLT, Int.reduceLE, Int.reduceEq, Int.reduceMod, Int.reduceDiv, reduceCtorEq, not_true_eq_false, not_false_eq_true]) | refine vIfE_of (fun _ => ?_) (fun _ => ?_) | refine vIfD_of (fun _ => ?_) (fun _ => ?_) | refine vIfQ_of (fun _ => ?_) (fun _ => ?_) | refine vIfV_of (fun _ => ?_) (fun _ => ?_) | refine And.intro (by omega) ?_ | refine drawn_q ?_ | fail)
  refine (both_c va vb a b _ opA rfl hb69 andF_c w hA hB ha hb).mono ?_
  rintro r w1 ⟨h1, h2⟩
  repeat' (first | (simp (disch := omega) only [push_cast, ↓reduceIte, Nat.reduceEqDiff, Int.reduceToNat, Nat.reducePow, Int.reducePow, Int.reduceNeg, Nat.reduceMul, Int.reduceMul, Int.reduceAdd, Int.reduceSub, Nat.reduceAdd, Nat.reduceSub, Nat.reduceLeDiff, Int.reduceLT, Int.reduceLE, Int.reduceEq, Int.reduceMod, Int.reduceDiv, reduceCtorEq, not_true_eq_false, not_false_eq_true]) | refine vIfE_of (fun _ => ?_) (fun _ => ?_) | refine vIfD_of (fun _ => ?_) (fun _ => ?_) | refine vIfQ_of (fun _ => ?_) (fun _ => ?_) | refine vIfV_of (fun _ => ?_) (fun _ => ?_) | refine And.intro (by omega) ?_ | refine drawn_q ?_ | fail)
  first | exact ⟨h1, h2⟩ | exact h2
theorem or_c (va vb : Value) (a b : S) (w : World) (hA : PairS w va a) (hB : PairS w vb b) (ha : Rt (-1) a) (hb : Rt (-1) b) : FnC Try.prog 38 #[va, vb] w fun r w' => IsC opO a b w' w.heap.size r ∧ Later w w' := by
  refine enter38 _ _ ?_
  unfold B38
  repeat' (first | (simp (disch := omega) only [push_cast, ↓reduceIte, Nat.reduceEqDiff, Int.reduceToNat, Nat.reducePow, Int.reducePow, Int.reduceNeg, Nat.reduceMul, Int.reduceMul, Int.reduceAdd, Int.reduceSub, Nat.reduceAdd, Nat.reduceSub, Nat.reduceLeDiff, Int.reduceLT, Int.reduceLE, Int.reduceEq, Int.reduceMod, Int.reduceDiv, reduceCtorEq, not_true_eq_false, not_false_eq_true]) | refine vIfE_of (fun _ => ?_) (fun _ => ?_) | refine vIfD_of (fun _ => ?_) (fun _ => ?_) | refine vIfQ_of (fun _ => ?_) (fun _ => ?_) | refine vIfV_of (fun _ => ?_) (fun _ => ?_) | refine And.intro (by omega) ?_ | refine drawn_q ?_ | fail)
  refine (both_c va vb a b _ opO rfl hb71 orF_c w hA hB ha hb).mono ?_
  rintro r w1 ⟨h1, h2⟩
  repeat' (first | (simp (disch := omega) only [push_cast, ↓reduceIte, Nat.reduceEqDiff, Int.reduceToNat, Nat.reducePow, Int.reducePow, Int.reduceNeg, Nat.reduceMul, Int.reduceMul, Int.reduceAdd, Int.reduceSub, Nat.reduceAdd, Nat.reduceSub, Nat.reduceLeDiff, Int.reduceLT, Int.reduceLE, Int.reduceEq, Int.reduceMod, Int.reduceDiv, reduceCtorEq, not_true_eq_false, not_false_eq_true]) | refine vIfE_of (fun _ => ?_) (fun _ => ?_) | refine vIfD_of (fun _ => ?_) (fun _ => ?_) | refine vIfQ_of (fun _ => ?_) (fun _ => ?_) | refine vIfV_of (fun _ => ?_) (fun _ => ?_) | refine And.intro (by omega) ?_ | refine drawn_q ?_ | fail)
  first | exact ⟨h1, h2⟩ | exact h2
theorem minus_c (va vb : Value) (a b : S) (w : World) (hA : PairS w va a) (hB : PairS w vb b) (ha : Rt (-1) a) (hb : Rt (-1) b) : FnC Try.prog 40 #[va, vb] w fun r w' => IsC opM a b w' w.heap.size r ∧ Later w w' := by
  refine enter40 _ _ ?_
  unfold B40
  repeat' (first | (simp (disch := omega) only [push_cast, ↓reduceIte, Nat.reduceEqDiff, Int.reduceToNat, Nat.reducePow, Int.reducePow, Int.reduceNeg, Nat.reduceMul, Int.reduceMul, Int.reduceAdd, Int.reduceSub, Nat.reduceAdd, Nat.reduceSub, Nat.reduceLeDiff, Int.reduceLT, Int.reduceLE, Int.reduceEq, Int.reduceMod, Int.reduceDiv, reduceCtorEq, not_true_eq_false, not_false_eq_true]) | refine vIfE_of (fun _ => ?_) (fun _ => ?_) | refine vIfD_of (fun _ => ?_) (fun _ => ?_) | refine vIfQ_of (fun _ => ?_) (fun _ => ?_) | refine vIfV_of (fun _ => ?_) (fun _ => ?_) | refine And.intro (by omega) ?_ | refine drawn_q ?_ | fail)
  refine (both_c va vb a b _ opM rfl hb72 minusF_c w hA hB ha hb).mono ?_
  rintro r w1 ⟨h1, h2⟩
  repeat' (first | (simp (disch := omega) only [push_cast, ↓reduceIte, Nat.reduceEqDiff, Int.reduceToNat, Nat.reducePow, Int.reducePow, Int.reduceNeg, Nat.reduceMul, Int.reduceMul, Int.reduceAdd, Int.reduceSub, Nat.reduceAdd, Nat.reduceSub, Nat.reduceLeDiff, Int.reduceLT, Int.reduceLE, Int.reduceEq, Int.reduceMod, Int.reduceDiv, reduceCtorEq, not_true_eq_false, not_false_eq_true]) | refine vIfE_of (fun _ => ?_) (fun _ => ?_) | refine vIfD_of (fun _ => ?_) (fun _ => ?_) | refine vIfQ_of (fun _ => ?_) (fun _ => ?_) | refine vIfV_of (fun _ => ?_) (fun _ => ?_) | refine And.intro (by omega) ?_ | refine drawn_q ?_ | fail)
  first | exact ⟨h1, h2⟩ | exact h2
end Go.Proofs.Ytfeocfcclmndoaa
