/- The contract of the program's Encode: a range over the steps. -/
import Derived.Test.YtdfdohajjgjbdaaDel4
set_option linter.unusedSimpArgs false
namespace Go.Proofs.Ytdfdohajjgjbdaa
open Go.Vc Go.Del Go.Zig Go.Nib
theorem zInt_o (b : Value) (bs : List UInt8) (n : Int) (w : World) (B : Nat) (h : I64 n) (hb : Sl w b (bs.map u8v)) (hl : bs.length ≤ 140737488355000) (hB : B ≤ w.heap.size) :
    FnC Try.prog 38 #[b, .int .i64 n] w fun v w' => OwnB w' B 5 v (bs ++ zi n) ∧ Later w w' :=
  (zInt_c b bs n w h hb hl).mono fun v w' h => ⟨OwnB.base (by
    have h1 := h.1
    unfold OwnB
    rw [List.length_append]; exact h1) hB, h.2⟩
set_option maxRecDepth 100000 in
theorem encode_c (v : Value) (l : List Int) (w : World) (h : Sl w v (l.map i64v)) (hok : Ok l) : FnC Try.prog 28 #[v] w fun r w' => EncR w' w.heap.size r l ∧ Later w w' := by
  have hs := h
  obtain ⟨o, c, rfl, g1, g2, h, g3⟩ := h.openM
  refine enter28 _ ?_
  unfold B28
  have ec : (Value.slice o l.length c).cells = #[.slice o l.length c] := rfl
  by_cases hb : 65536 < l.length
  · repeat' (first | (simp (disch := omega) only [push_cast, ↓reduceIte, Nat.reduceEqDiff, Int.reduceToNat, Nat.reducePow, Int.reducePow, Int.reduceNeg, Nat.reduceMul, Int.reduceMul, Int.reduceAdd, Int.reduceSub, Nat.reduceAdd, Nat.reduceSub, Nat.reduceLeDiff, Int.reduceLT, Int.reduceLE, Int.reduceEq, Int.reduceMod, Int.reduceDiv, reduceCtorEq, not_true_eq_false, not_false_eq_true]) | refine vIfE_of (fun _ => ?_) (fun _ => ?_) | refine vIfD_of (fun _ => ?_) (fun _ => ?_) | refine vIfQ_of (fun _ => ?_) (fun _ => ?_) | refine vIfV_of (fun _ => ?_) (fun _ => ?_) | refine And.intro (by omega) ?_ | refine drawn_q ?_ | fail)
    exact ⟨enc_bad hb, Later.refl _⟩
  obtain ⟨z1, z2, z3, z4, z5⟩ := enc_len hok hb
  have hI : I64 (l.length : Int) := by unfold I64; omega
  by_cases h0 : l.length = 0
  · repeat' (first | (simp (disch := omega) only [push_cast, ↓reduceIte, Nat.reduceEqDiff, Int.reduceToNat, Nat.reducePow, Int.reducePow, Int.reduceNeg, Nat.reduceMul, Int.reduceMul, Int.reduceAdd, Int.reduceSub, Nat.reduceAdd, Nat.reduceSub, Nat.reduceLeDiff, Int.reduceLT, Int.reduceLE, Int.reduceEq, Int.reduceMod, Int.reduceDiv, reduceCtorEq, not_true_eq_false, not_false_eq_true]) | refine vIfE_of (fun _ => ?_) (fun _ => ?_) | refine vIfD_of (fun _ => ?_) (fun _ => ?_) | refine vIfQ_of (fun _ => ?_) (fun _ => ?_) | refine vIfV_of (fun _ => ?_) (fun _ => ?_) | refine And.intro (by omega) ?_ | refine drawn_q ?_ | fail)
    refine (zInt_o (.slice none 0 0) [] l.length w w.heap.size hI (Sl.nil _) (by simp) (Nat.le_refl _)).mono ?_
    rintro v1 w1 ⟨ho1, hl1⟩
    obtain ⟨o1, c1, hv1⟩ := ho1.slice
    subst hv1
    repeat' (first | (simp (disch := omega) only [push_cast, ↓reduceIte, Nat.reduceEqDiff, Int.reduceToNat, Nat.reducePow, Int.reducePow, Int.reduceNeg, Nat.reduceMul, Int.reduceMul, Int.reduceAdd, Int.reduceSub, Nat.reduceAdd, Nat.reduceSub, Nat.reduceLeDiff, Int.reduceLT, Int.reduceLE, Int.reduceEq, Int.reduceMod, Int.reduceDiv, reduceCtorEq, not_true_eq_false, not_false_eq_true]) | refine vIfE_of (fun _ => ?_) (fun _ => ?_) | refine vIfD_of (fun _ => ?_) (fun _ => ?_) | refine vIfQ_of (fun _ => ?_) (fun _ => ?_) | refine vIfV_of (fun _ => ?_) (fun _ => ?_) | refine And.intro (by omega) ?_ | refine drawn_q ?_ | fail)
    refine ⟨enc_ok hb ?_, hl1⟩
    have e : l = [] := List.length_eq_zero_iff.1 h0
    unfold enc
    rw [if_pos e, List.append_nil]; exact ho1
  have henc : enc l = ((zi l.length ++ zi (at_ l 0)) ++ zi (mn (stp l))) ++ zi (wid (rs l)) ++ pack (rs l) (wid (rs l)) := by
    unfold enc encT
    rw [if_neg (fun e => h0 (by rw [e]; rfl))]
    simp only [List.append_assoc]
  have Bb := Blk.new w #[.int .i64 0] 3
  have sb := World.size_alloc w (.cells #[.int .i64 0] 3)
  have lb := later_alloc w (.cells #[.int .i64 0] 3)
  by_cases h1 : 1 < l.length
  · repeat' (first | (simp (disch := omega) only [push_cast, ↓reduceIte, Nat.reduceEqDiff, Int.reduceToNat, Nat.reducePow, Int.reducePow, Int.reduceNeg, Nat.reduceMul, Int.reduceMul, Int.reduceAdd, Int.reduceSub, Nat.reduceAdd, Nat.reduceSub, Nat.reduceLeDiff, Int.reduceLT, Int.reduceLE, Int.reduceEq, Int.reduceMod, Int.reduceDiv, reduceCtorEq, not_true_eq_false, not_false_eq_true]) | refine vIfE_of (fun _ => ?_) (fun _ => ?_) | refine vIfD_of (fun _ => ?_) (fun _ => ?_) | refine vIfQ_of (fun _ => ?_) (fun _ => ?_) | refine vIfV_of (fun _ => ?_) (fun _ => ?_) | refine And.intro (by omega) ?_ | refine drawn_q ?_ | fail)
    generalize w.alloc (.cells #[.int .i64 0] 3) = wb at *
    refine (steps_c _ l wb (hs.later lb)).mono ?_
    rintro _ w1 ⟨rfl, hw1⟩
    have Bk := Blk.new wb #[.slice o l.length c] 35
    have Bb1 := Bb.alloc (.cells #[.slice o l.length c] 35)
    have l1 := later_alloc wb (.cells #[.slice o l.length c] 35)
    rw [← hw1] at Bk Bb1 l1
    repeat' (first | (simp (disch := omega) only [push_cast, ↓reduceIte, Nat.reduceEqDiff, Int.reduceToNat, Nat.reducePow, Int.reducePow, Int.reduceNeg, Nat.reduceMul, Int.reduceMul, Int.reduceAdd, Int.reduceSub, Nat.reduceAdd, Nat.reduceSub, Nat.reduceLeDiff, Int.reduceLT, Int.reduceLE, Int.reduceEq, Int.reduceMod, Int.reduceDiv, reduceCtorEq, not_true_eq_false, not_false_eq_true]) | refine vIfE_of (fun _ => ?_) (fun _ => ?_) | refine vIfD_of (fun _ => ?_) (fun _ => ?_) | refine vIfQ_of (fun _ => ?_) (fun _ => ?_) | refine vIfV_of (fun _ => ?_) (fun _ => ?_) | refine And.intro (by omega) ?_ | refine drawn_q ?_ | fail)
    refine (collect_c _ o c l w1 Bk (h.later (lb.trans l1)) (by omega)).mono ?_
    rintro v2 w2 ⟨ho2, hl2⟩
    have hs2 := ho2.sl
    obtain ⟨o2, c2, hv2⟩ := ho2.slice
    subst hv2
    repeat' (first | (simp (disch := omega) only [push_cast, ↓reduceIte, Nat.reduceEqDiff, Int.reduceToNat, Nat.reducePow, Int.reducePow, Int.reduceNeg, Nat.reduceMul, Int.reduceMul, Int.reduceAdd, Int.reduceSub, Nat.reduceAdd, Nat.reduceSub, Nat.reduceLeDiff, Int.reduceLT, Int.reduceLE, Int.reduceEq, Int.reduceMod, Int.reduceDiv, reduceCtorEq, not_true_eq_false, not_false_eq_true]) | refine vIfE_of (fun _ => ?_) (fun _ => ?_) | refine vIfD_of (fun _ => ?_) (fun _ => ?_) | refine vIfQ_of (fun _ => ?_) (fun _ => ?_) | refine vIfV_of (fun _ => ?_) (fun _ => ?_) | refine And.intro (by omega) ?_ | refine drawn_q ?_ | fail)
    refine (min_c _ (stp l) w2 hs2 (by rw [stp_len]; omega)).mono ?_
    rintro _ w0 ⟨rfl, hw⟩
    obtain rfl := hw.symm
    have Bb2 := Bb1.chg (Chg.of_later (ks := []) hl2) (by simp)
    have hfz := Bb2.frozen 0
    have hce : ∃ y, w2.cell? ⟨w.heap.size, 0, none⟩ = some y := ⟨_, Bb2.cell 0⟩
    have g3 := chg_setCell (i := 0) w2 (ks := [w.heap.size]) (k := w.heap.size) (by simp) (.int .i64 (mn (stp l)))
    have Bb3 := Bb2.set 0 (.int .i64 (mn (stp l)))
    repeat' (first | (simp (disch := omega) only [push_cast, ↓reduceIte, Nat.reduceEqDiff, Int.reduceToNat, Nat.reducePow, Int.reducePow, Int.reduceNeg, Nat.reduceMul, Int.reduceMul, Int.reduceAdd, Int.reduceSub, Nat.reduceAdd, Nat.reduceSub, Nat.reduceLeDiff, Int.reduceLT, Int.reduceLE, Int.reduceEq, Int.reduceMod, Int.reduceDiv, reduceCtorEq, not_true_eq_false, not_false_eq_true, hfz]) | refine vIfE_of (fun _ => ?_) (fun _ => ?_) | refine vIfD_of (fun _ => ?_) (fun _ => ?_) | refine vIfQ_of (fun _ => ?_) (fun _ => ?_) | refine vIfV_of (fun _ => ?_) (fun _ => ?_) | refine And.intro (by omega) ?_ | refine drawn_q ?_ | fail)
    have bb : Blk (w2.setCell ⟨w.heap.size, 0, none⟩ (.int .i64 (mn (stp l)))) w.heap.size #[.int .i64 (mn (stp l))] 3 := by simpa using Bb3
    have hu := g3.later (lb.trans (l1.trans hl2)) (by simp)
    have hsz : w.heap.size < (w2.setCell ⟨w.heap.size, 0, none⟩ (.int .i64 (mn (stp l)))).heap.size := by
      have := (l1.trans hl2).size
      have := g3.size
      omega
    generalize w2.setCell ⟨w.heap.size, 0, none⟩ (.int .i64 (mn (stp l))) = u at *
    have B1 := Blk.new u #[.slice none 0 0] 45
    have bb1 := bb.alloc (.cells #[.slice none 0 0] 45)
    have s1 := World.size_alloc u (.cells #[.slice none 0 0] 45)
    have l1' := later_alloc u (.cells #[.slice none 0 0] 45)
    generalize u.alloc (.cells #[.slice none 0 0] 45) = u1 at *
    refine (steps_c _ l u1 (hs.later (hu.trans l1'))).mono ?_
    rintro _ u2 ⟨rfl, hw2⟩
    have Bk' := Blk.new u1 #[.slice o l.length c] 35
    have B2 := B1.alloc (.cells #[.slice o l.length c] 35)
    have bb2 := bb1.alloc (.cells #[.slice o l.length c] 35)
    have s2 := World.size_alloc u1 (.cells #[.slice o l.length c] 35)
    have l2' := later_alloc u1 (.cells #[.slice o l.length c] 35)
    rw [← hw2] at Bk' B2 bb2 s2 l2'
    repeat' (first | (simp (disch := omega) only [push_cast, ↓reduceIte, Nat.reduceEqDiff, Int.reduceToNat, Nat.reducePow, Int.reducePow, Int.reduceNeg, Nat.reduceMul, Int.reduceMul, Int.reduceAdd, Int.reduceSub, Nat.reduceAdd, Nat.reduceSub, Nat.reduceLeDiff, Int.reduceLT, Int.reduceLE, Int.reduceEq, Int.reduceMod, Int.reduceDiv, reduceCtorEq, not_true_eq_false, not_false_eq_true]) | refine vIfE_of (fun _ => ?_) (fun _ => ?_) | refine vIfD_of (fun _ => ?_) (fun _ => ?_) | refine vIfQ_of (fun _ => ?_) (fun _ => ?_) | refine vIfV_of (fun _ => ?_) (fun _ => ?_) | refine And.intro (by omega) ?_ | refine drawn_q ?_ | fail)
    refine rngC_of hb65 ?_
    rintro D L rec hrec hD hL hyl
    have hDe : D = u.heap.size + 2 := by omega
    have hLe : L = u.heap.size + 3 := by omega
    have hrL : ((u2.alloc (.deferred (some []))).alloc (rec .ready .normal)).heap[L]? = some (rec .ready .normal) := by
      have := World.alloc_heap_new (u2.alloc (.deferred (some []))) (rec .ready .normal)
      rw [World.size_alloc] at this
      rw [hL]; exact this
    have hrD : ((u2.alloc (.deferred (some []))).alloc (rec .ready .normal)).heap[D]? = some (.deferred (some [])) := by
      rw [hD]
      exact heap_later (World.alloc_heap_new u2 _) (later_alloc _ _)
    have hl3 := later_two u2 (.deferred (some [])) (rec .ready .normal)
    generalize (u2.alloc (.deferred (some []))).alloc (rec .ready .normal) = u3 at *
    have hu3 := (l1'.trans l2').trans hl3
    have Bk3 := Bk'.chg (Chg.of_later (ks := []) hl3) (by simp)
    have B3 := B2.chg (Chg.of_later (ks := []) hl3) (by simp)
    have bb3 := bb2.chg (Chg.of_later (ks := []) hl3) (by simp)
    have hsu := h.later hu
    subst hDe
    have hstc := step_c L u1.heap.size o c l (fun i w' => i ≤ l.length - 1 ∧ LpS u w' u.heap.size L (u.heap.size + 2) (rec .ready .normal) 45 47 ((rsN l (mn (stp l)) i).map u64v) ∧ Blk w' w.heap.size #[.int .i64 (mn (stp l))] 3) (fun _ => False) u3 Bk3 (hsu.later hu3) (by omega)
      ⟨by omega, ⟨hrL, hrD, hu3, _, B3, own_nil _ _ _ _⟩, bb3⟩ (fun i w1 w2 h hl => ⟨h.1, h.2.1.step hl, h.2.2.chg (Chg.of_later (ks := []) hl) (by simp)⟩) ?_
    · refine hstc.mono ?_
      rintro _ w4 (⟨_, hS, hbb⟩ | hF)
      · obtain ⟨r1, r2, r3, ov, r4, r5⟩ := hS
        have g1 := chg_putObj w4 (L := L) (ks := [L]) (by simp) (rec .exhausted .normal)
        have hd := heap_chg r2 g1 (by simp; omega)
        have ho := own_obj r5 r1 (hrec _ _) g1
        have hbr := r4.chg g1 (by simp; omega)
        have bbf := hbb.chg g1 (by simp; omega)
        have hlat := g1.later r3 (by simp; omega)
        refine .inl ⟨r1, ?_⟩
        have ho : OwnW (w4.putObj L (rec .exhausted .normal)) u.heap.size 47 ov (rs l) := by
          unfold OwnW rs; simpa using ho
        obtain ⟨ow, cw, hvw⟩ := ho.slice
        subst hvw
        have hrl := rs_len l
        have h64 := wid_64 (rs l)
        repeat' (first | (simp (disch := omega) only [push_cast, ↓reduceIte, Nat.reduceEqDiff, Int.reduceToNat, Nat.reducePow, Int.reducePow, Int.reduceNeg, Nat.reduceMul, Int.reduceMul, Int.reduceAdd, Int.reduceSub, Nat.reduceAdd, Nat.reduceSub, Nat.reduceLeDiff, Int.reduceLT, Int.reduceLE, Int.reduceEq, Int.reduceMod, Int.reduceDiv, reduceCtorEq, not_true_eq_false, not_false_eq_true]) | refine vIfE_of (fun _ => ?_) (fun _ => ?_) | refine vIfD_of (fun _ => ?_) (fun _ => ?_) | refine vIfQ_of (fun _ => ?_) (fun _ => ?_) | refine vIfV_of (fun _ => ?_) (fun _ => ?_) | refine And.intro (by omega) ?_ | refine drawn_q ?_ | fail)
        generalize w4.putObj L (rec .exhausted .normal) = w5 at *
        have cr : w5.cell? ⟨u.heap.size, 0, none⟩ = some (.slice ow (rs l).length cw) := hbr.cell 0
        have cb : w5.cell? ⟨w.heap.size, 0, none⟩ = some (.int .i64 (mn (stp l))) := bbf.cell 0
        repeat' (first | (simp (disch := omega) only [push_cast, ↓reduceIte, Nat.reduceEqDiff, Int.reduceToNat, Nat.reducePow, Int.reducePow, Int.reduceNeg, Nat.reduceMul, Int.reduceMul, Int.reduceAdd, Int.reduceSub, Nat.reduceAdd, Nat.reduceSub, Nat.reduceLeDiff, Int.reduceLT, Int.reduceLE, Int.reduceEq, Int.reduceMod, Int.reduceDiv, reduceCtorEq, not_true_eq_false, not_false_eq_true, cr]) | refine vIfE_of (fun _ => ?_) (fun _ => ?_) | refine vIfD_of (fun _ => ?_) (fun _ => ?_) | refine vIfQ_of (fun _ => ?_) (fun _ => ?_) | refine vIfV_of (fun _ => ?_) (fun _ => ?_) | refine And.intro (by omega) ?_ | refine drawn_q ?_ | fail)
        refine (width_c _ (rs l) w5 ho.sl).mono ?_
        rintro _ w0 ⟨rfl, hw⟩
        obtain rfl := hw.symm
        repeat' (first | (simp (disch := omega) only [push_cast, ↓reduceIte, Nat.reduceEqDiff, Int.reduceToNat, Nat.reducePow, Int.reducePow, Int.reduceNeg, Nat.reduceMul, Int.reduceMul, Int.reduceAdd, Int.reduceSub, Nat.reduceAdd, Nat.reduceSub, Nat.reduceLeDiff, Int.reduceLT, Int.reduceLE, Int.reduceEq, Int.reduceMod, Int.reduceDiv, reduceCtorEq, not_true_eq_false, not_false_eq_true, cr]) | refine vIfE_of (fun _ => ?_) (fun _ => ?_) | refine vIfD_of (fun _ => ?_) (fun _ => ?_) | refine vIfQ_of (fun _ => ?_) (fun _ => ?_) | refine vIfV_of (fun _ => ?_) (fun _ => ?_) | refine And.intro (by omega) ?_ | refine drawn_q ?_ | fail)
        refine (pack_c _ (rs l) (wid (rs l)) w5 ho.sl (by omega) (by omega)).mono ?_
        rintro _ w6 ⟨⟨x, rfl, hx⟩, hl6⟩
        rw [(pack_rs l hb).1]
        rw [(pack_rs l hb).2] at hx
        obtain ⟨ox, cx, hvx⟩ := hx.slice
        subst hvx
        have hl06 := (hu.trans hlat).trans hl6
        have cb6 := hl6.cell cb
        obtain ⟨a, rfl⟩ := h.some (show 0 < l.length by omega)
        have c0 : w6.cell? a = some (.int .i64 (at_ l 0)) := by
          have := (h.later hl06).atI (show 0 < l.length by omega)
          rwa [addr_add_zero] at this
        repeat' (first | (simp (disch := omega) only [push_cast, ↓reduceIte, Nat.reduceEqDiff, Int.reduceToNat, Nat.reducePow, Int.reducePow, Int.reduceNeg, Nat.reduceMul, Int.reduceMul, Int.reduceAdd, Int.reduceSub, Nat.reduceAdd, Nat.reduceSub, Nat.reduceLeDiff, Int.reduceLT, Int.reduceLE, Int.reduceEq, Int.reduceMod, Int.reduceDiv, reduceCtorEq, not_true_eq_false, not_false_eq_true]) | refine vIfE_of (fun _ => ?_) (fun _ => ?_) | refine vIfD_of (fun _ => ?_) (fun _ => ?_) | refine vIfQ_of (fun _ => ?_) (fun _ => ?_) | refine vIfV_of (fun _ => ?_) (fun _ => ?_) | refine And.intro (by omega) ?_ | fail)
        refine drawn_k 9 ?_
        repeat' (first | (simp (disch := omega) only [push_cast, ↓reduceIte, Nat.reduceEqDiff, Int.reduceToNat, Nat.reducePow, Int.reducePow, Int.reduceNeg, Nat.reduceMul, Int.reduceMul, Int.reduceAdd, Int.reduceSub, Nat.reduceAdd, Nat.reduceSub, Nat.reduceLeDiff, Int.reduceLT, Int.reduceLE, Int.reduceEq, Int.reduceMod, Int.reduceDiv, reduceCtorEq, not_true_eq_false, not_false_eq_true, c0, cb6]) | refine vIfE_of (fun _ => ?_) (fun _ => ?_) | refine vIfD_of (fun _ => ?_) (fun _ => ?_) | refine vIfQ_of (fun _ => ?_) (fun _ => ?_) | refine vIfV_of (fun _ => ?_) (fun _ => ?_) | refine And.intro (by omega) ?_ | fail)
        refine NFn.of hb38 (fun v w' => OwnB w' w6.heap.size 5 v (zi l.length)) (stb_own _ _ _ _) (fun w' hl' => (zInt_o (.slice none 0 0) [] l.length w' w6.heap.size hI (Sl.nil _) (by simp) hl'.size)) ?_
        repeat' (first | (simp (disch := omega) only [push_cast, ↓reduceIte, Nat.reduceEqDiff, Int.reduceToNat, Nat.reducePow, Int.reducePow, Int.reduceNeg, Nat.reduceMul, Int.reduceMul, Int.reduceAdd, Int.reduceSub, Nat.reduceAdd, Nat.reduceSub, Nat.reduceLeDiff, Int.reduceLT, Int.reduceLE, Int.reduceEq, Int.reduceMod, Int.reduceDiv, reduceCtorEq, not_true_eq_false, not_false_eq_true, c0, cb6]) | refine vIfE_of (fun _ => ?_) (fun _ => ?_) | refine vIfD_of (fun _ => ?_) (fun _ => ?_) | refine vIfQ_of (fun _ => ?_) (fun _ => ?_) | refine vIfV_of (fun _ => ?_) (fun _ => ?_) | refine And.intro (by omega) ?_ | fail)
        refine nR_call hb38 (fun v w' => OwnB w' w6.heap.size 5 v (zi l.length ++ zi (at_ l 0))) (stb_own _ _ _ _) ?_ ?_
        · intro σ' w' hl' hp
          have p1 := psis_V hp (t := 47) (by simp) rfl
          have p2 : σ' 50 = .int .i64 (at_ l 0) := (psis_v hp (t := 50) (by simp) rfl).trans (by simp (disch := omega) only [push_cast, ↓reduceIte, Nat.reduceEqDiff, Int.reduceToNat, Nat.reducePow, Int.reducePow, Int.reduceNeg, Nat.reduceMul, Int.reduceMul, Int.reduceAdd, Int.reduceSub, Nat.reduceAdd, Nat.reduceSub, Nat.reduceLeDiff, Int.reduceLT, Int.reduceLE, Int.reduceEq, Int.reduceMod, Int.reduceDiv, reduceCtorEq, not_true_eq_false, not_false_eq_true])
          have ea : (#[Operand.tmp 47, Operand.tmp 50] : Array Operand).map (ev σ') = #[σ' 47, σ' 50] := by simp [ev]
          rw [ea, p2]
          exact zInt_o _ _ _ w' _ (at_i64 hok 0) p1.sl (by first | omega | (simp; omega)) hl'.size
        repeat' (first | (simp (disch := omega) only [push_cast, ↓reduceIte, Nat.reduceEqDiff, Int.reduceToNat, Nat.reducePow, Int.reducePow, Int.reduceNeg, Nat.reduceMul, Int.reduceMul, Int.reduceAdd, Int.reduceSub, Nat.reduceAdd, Nat.reduceSub, Nat.reduceLeDiff, Int.reduceLT, Int.reduceLE, Int.reduceEq, Int.reduceMod, Int.reduceDiv, reduceCtorEq, not_true_eq_false, not_false_eq_true, c0, cb6]) | refine vIfE_of (fun _ => ?_) (fun _ => ?_) | refine vIfD_of (fun _ => ?_) (fun _ => ?_) | refine vIfQ_of (fun _ => ?_) (fun _ => ?_) | refine vIfV_of (fun _ => ?_) (fun _ => ?_) | refine And.intro (by omega) ?_ | fail)
        refine nR_call hb38 (fun v w' => OwnB w' w6.heap.size 5 v ((zi l.length ++ zi (at_ l 0)) ++ zi (mn (stp l)))) (stb_own _ _ _ _) ?_ ?_
        · intro σ' w' hl' hp
          have p1 := psis_V hp (t := 51) (by simp) rfl
          have p2 : σ' 52 = .int .i64 (mn (stp l)) := (psis_v hp (t := 52) (by simp) rfl).trans (by simp (disch := omega) only [push_cast, ↓reduceIte, Nat.reduceEqDiff, Int.reduceToNat, Nat.reducePow, Int.reducePow, Int.reduceNeg, Nat.reduceMul, Int.reduceMul, Int.reduceAdd, Int.reduceSub, Nat.reduceAdd, Nat.reduceSub, Nat.reduceLeDiff, Int.reduceLT, Int.reduceLE, Int.reduceEq, Int.reduceMod, Int.reduceDiv, reduceCtorEq, not_true_eq_false, not_false_eq_true])
          have ea : (#[Operand.tmp 51, Operand.tmp 52] : Array Operand).map (ev σ') = #[σ' 51, σ' 52] := by simp [ev]
          rw [ea, p2]
          exact zInt_o _ _ _ w' _ (base_in l) p1.sl (by first | omega | (simp; omega)) hl'.size
        repeat' (first | (simp (disch := omega) only [push_cast, ↓reduceIte, Nat.reduceEqDiff, Int.reduceToNat, Nat.reducePow, Int.reducePow, Int.reduceNeg, Nat.reduceMul, Int.reduceMul, Int.reduceAdd, Int.reduceSub, Nat.reduceAdd, Nat.reduceSub, Nat.reduceLeDiff, Int.reduceLT, Int.reduceLE, Int.reduceEq, Int.reduceMod, Int.reduceDiv, reduceCtorEq, not_true_eq_false, not_false_eq_true, c0, cb6]) | refine vIfE_of (fun _ => ?_) (fun _ => ?_) | refine vIfD_of (fun _ => ?_) (fun _ => ?_) | refine vIfQ_of (fun _ => ?_) (fun _ => ?_) | refine vIfV_of (fun _ => ?_) (fun _ => ?_) | refine And.intro (by omega) ?_ | fail)
        intro w7 hl7 x53 hx53 x51 _ x47 _
        repeat' (first | (simp (disch := omega) only [push_cast, ↓reduceIte, Nat.reduceEqDiff, Int.reduceToNat, Nat.reducePow, Int.reducePow, Int.reduceNeg, Nat.reduceMul, Int.reduceMul, Int.reduceAdd, Int.reduceSub, Nat.reduceAdd, Nat.reduceSub, Nat.reduceLeDiff, Int.reduceLT, Int.reduceLE, Int.reduceEq, Int.reduceMod, Int.reduceDiv, reduceCtorEq, not_true_eq_false, not_false_eq_true]) | refine vIfE_of (fun _ => ?_) (fun _ => ?_) | refine vIfD_of (fun _ => ?_) (fun _ => ?_) | refine vIfQ_of (fun _ => ?_) (fun _ => ?_) | refine vIfV_of (fun _ => ?_) (fun _ => ?_) | refine And.intro (by omega) ?_ | refine drawn_q ?_ | fail)
        refine (zInt_o x53 _ (wid (rs l)) w7 w6.heap.size (by unfold I64; omega) hx53.sl (by simp; omega) hl7.size).mono ?_
        rintro v8 w8 ⟨ho8, hl8⟩
        obtain ⟨o8, c8, hv8⟩ := ho8.slice
        subst hv8
        have hl68 := hl7.trans hl8
        have hap := apart_of hx ho8 (Nat.le_refl _)
        repeat' (first | (simp (disch := omega) only [push_cast, ↓reduceIte, Nat.reduceEqDiff, Int.reduceToNat, Nat.reducePow, Int.reducePow, Int.reduceNeg, Nat.reduceMul, Int.reduceMul, Int.reduceAdd, Int.reduceSub, Nat.reduceAdd, Nat.reduceSub, Nat.reduceLeDiff, Int.reduceLT, Int.reduceLE, Int.reduceEq, Int.reduceMod, Int.reduceDiv, reduceCtorEq, not_true_eq_false, not_false_eq_true]) | refine vIfE_of (fun _ => ?_) (fun _ => ?_) | refine vIfD_of (fun _ => ?_) (fun _ => ?_) | refine vIfQ_of (fun _ => ?_) (fun _ => ?_) | refine vIfV_of (fun _ => ?_) (fun _ => ?_) | refine And.intro (by omega) ?_ | refine drawn_q ?_ | fail)
        refine app_bytes Try.underlying36 ho8 (hx.later hl68).sl (by simp; omega) hl68.size (hx.later hl68) (fun k hk hk' => hap k hk' hk) ?_
        intro v9 w9 ho9 hx9 hap9 hk9 hsz9
        have hl69 := hk9 w6 hl68 (Nat.le_refl _)
        have hdF := heap_later hd (hl6.trans hl69)
        obtain ⟨o9, c9, hv9⟩ := ho9.slice
        subst hv9
        have gF := chg_putObj w9 (L := u.heap.size + 2) (ks := [u.heap.size + 2]) (by simp) (.deferred none)
        have hoF := own_obj ho9 hdF rfl gF
        have hlF := gF.later (hl06.trans hl69) (by simp; omega)
        have hoF : OwnB _ w.heap.size 5 _ _ := own_base hoF hl06.size
        repeat' (first | (simp (disch := omega) only [push_cast, ↓reduceIte, Nat.reduceEqDiff, Int.reduceToNat, Nat.reducePow, Int.reducePow, Int.reduceNeg, Nat.reduceMul, Int.reduceMul, Int.reduceAdd, Int.reduceSub, Nat.reduceAdd, Nat.reduceSub, Nat.reduceLeDiff, Int.reduceLT, Int.reduceLE, Int.reduceEq, Int.reduceMod, Int.reduceDiv, reduceCtorEq, not_true_eq_false, not_false_eq_true]) | refine vIfE_of (fun _ => ?_) (fun _ => ?_) | refine vIfD_of (fun _ => ?_) (fun _ => ?_) | refine vIfQ_of (fun _ => ?_) (fun _ => ?_) | refine vIfV_of (fun _ => ?_) (fun _ => ?_) | refine And.intro (by omega) ?_ | refine drawn_q ?_ | fail)
        refine ⟨enc_ok hb ?_, hlF⟩
        rw [henc]; exact hoF
      · exact hF.elim
    · rintro i q1 ⟨hi, ⟨h1', h2', h3', ov, h4', h5'⟩, hbb⟩ hlt hk1 hs1
      refine hyl _ q1 _ ?_
      unfold Rnd
      refine ⟨h1', rfl, ?_⟩
      have hrs := rs1_nat l i hlt
      have hst : IntKind.u64.wrap (IntKind.i64.wrap (stp1 l i - mn (stp l))) = ((rs1 l (mn (stp l)) i).toNat : Int) := by
        have := (rs1 l (mn (stp l)) i).toNat_lt
        rw [wrap_wr, wrap_un]; unfold wr; omega
      repeat' (first | (simp (disch := omega) only [push_cast, ↓reduceIte, Nat.reduceEqDiff, Int.reduceToNat, Nat.reducePow, Int.reducePow, Int.reduceNeg, Nat.reduceMul, Int.reduceMul, Int.reduceAdd, Int.reduceSub, Nat.reduceAdd, Nat.reduceSub, Nat.reduceLeDiff, Int.reduceLT, Int.reduceLE, Int.reduceEq, Int.reduceMod, Int.reduceDiv, reduceCtorEq, not_true_eq_false, not_false_eq_true]) | refine vIfE_of (fun _ => ?_) (fun _ => ?_) | refine vIfD_of (fun _ => ?_) (fun _ => ?_) | refine vIfQ_of (fun _ => ?_) (fun _ => ?_) | refine vIfV_of (fun _ => ?_) (fun _ => ?_) | refine And.intro (by omega) ?_ | refine drawn_q ?_ | fail)
      have gL := chg_putObj q1 (L := L) (ks := [L]) (by simp) (rec .busy .normal)
      have y1 : (q1.putObj L (rec .busy .normal)).heap[L]? = some (rec .busy .normal) := World.putObj_heap_same (Array.getElem?_eq_some_iff.1 h1').1
      have y2 := heap_chg h2' gL (by simp; omega)
      have y3 := gL.later h3' (by simp; omega)
      have y4 := h4'.chg gL (by simp; omega)
      have y5 := own_obj h5' h1' (hrec _ _) gL
      have yk := hk1.chg gL (by simp; omega)
      have yb := hbb.chg gL (by simp; omega)
      generalize q1.putObj L (rec .busy .normal) = q3 at *
      simp only [List.length_map, rsN_len] at y5
      have y5s : OwnW q3 u.heap.size 47 ov (rsN l (mn (stp l)) i) := by
        unfold OwnW; rw [rsN_len]; exact y5
      obtain ⟨oo, cc, hov⟩ := y5s.slice
      rw [rsN_len] at hov
      subst hov
      have c0 : q3.cell? ⟨u.heap.size, 0, none⟩ = some (.slice oo i cc) := y4.cell 0
      have cb : q3.cell? ⟨w.heap.size, 0, none⟩ = some (.int .i64 (mn (stp l))) := yb.cell 0
      repeat' (first | (simp (disch := omega) only [push_cast, ↓reduceIte, Nat.reduceEqDiff, Int.reduceToNat, Nat.reducePow, Int.reducePow, Int.reduceNeg, Nat.reduceMul, Int.reduceMul, Int.reduceAdd, Int.reduceSub, Nat.reduceAdd, Nat.reduceSub, Nat.reduceLeDiff, Int.reduceLT, Int.reduceLE, Int.reduceEq, Int.reduceMod, Int.reduceDiv, reduceCtorEq, not_true_eq_false, not_false_eq_true, c0, cb, hst]) | refine vIfE_of (fun _ => ?_) (fun _ => ?_) | refine vIfD_of (fun _ => ?_) (fun _ => ?_) | refine vIfQ_of (fun _ => ?_) (fun _ => ?_) | refine vIfV_of (fun _ => ?_) (fun _ => ?_) | refine And.intro (by omega) ?_ | refine drawn_q ?_ | fail)
      refine vAppend_oneG Try.underlying45 ti47 rfl y5 rfl (by unfold maxLen; omega) (by omega) y3.size ?_
      intro v' u5 ho hg2 hlk
      have la := later_alloc q3 (.cells #[.int .u64 ((rs1 l (mn (stp l)) i).toNat : Int)] 47)
      have t5 := own_later y5 la
      have v1 := grown_obj t5 hg2 (heap_later y1 la) (not_cells (hrec _ _) _)
      have v2 := grown_obj t5 hg2 (heap_later y2 la) (not_cells rfl _)
      have v4 : Blk u5 u.heap.size _ 45 := grown_obj t5 hg2 (heap_later y4 la) (fun cs h => by simp at h)
      have vk : Blk u5 _ _ 35 := grown_obj t5 hg2 (heap_later yk la) (fun cs h => by simp at h)
      have vb : Blk u5 _ _ 3 := grown_obj t5 hg2 (heap_later yb la) (fun cs h => by simp at h)
      have v3 := hlk u y3 (Nat.le_refl _)
      have ho : OwnW u5 u.heap.size 47 v' (rsN l (mn (stp l)) (i + 1)) := by
        unfold OwnW
        rw [rsN_len, rsN_succ, List.map_append]; exact ho
      obtain ⟨o2, c2, hv2⟩ := ho.slice
      rw [rsN_len] at hv2
      subst hv2
      have hfz := v4.frozen 0
      have hce : ∃ y, u5.cell? ⟨u.heap.size, 0, none⟩ = some y := ⟨_, v4.cell 0⟩
      have g3 := chg_setCell (i := 0) u5 (ks := [u.heap.size]) (k := u.heap.size) (by simp) (.slice o2 (i + 1) c2)
      have z4 := v4.set 0 (.slice o2 (i + 1) c2)
      repeat' (first | (simp (disch := omega) only [push_cast, ↓reduceIte, Nat.reduceEqDiff, Int.reduceToNat, Nat.reducePow, Int.reducePow, Int.reduceNeg, Nat.reduceMul, Int.reduceMul, Int.reduceAdd, Int.reduceSub, Nat.reduceAdd, Nat.reduceSub, Nat.reduceLeDiff, Int.reduceLT, Int.reduceLE, Int.reduceEq, Int.reduceMod, Int.reduceDiv, reduceCtorEq, not_true_eq_false, not_false_eq_true, hfz]) | refine vIfE_of (fun _ => ?_) (fun _ => ?_) | refine vIfD_of (fun _ => ?_) (fun _ => ?_) | refine vIfQ_of (fun _ => ?_) (fun _ => ?_) | refine vIfV_of (fun _ => ?_) (fun _ => ?_) | refine And.intro (by omega) ?_ | refine drawn_q ?_ | fail)
      have x1 := heap_chg v1 g3 (by simp; omega)
      have x2 := heap_chg v2 g3 (by simp)
      have x3 := g3.later v3 (by simp)
      have x5 : OwnW _ u.heap.size 47 _ _ := own_chg_ty ho v4 (by decide) g3
      have xk := vk.chg g3 (by simp; omega)
      have xb := vb.chg g3 (by simp; omega)
      generalize u5.setCell ⟨u.heap.size, 0, none⟩ (.slice o2 (i + 1) c2) = u6 at *
      have gE := chg_putObj u6 (L := L) (ks := [L]) (by simp) (rec .ready .normal)
      repeat' (first | (simp (disch := omega) only [push_cast, ↓reduceIte, Nat.reduceEqDiff, Int.reduceToNat, Nat.reducePow, Int.reducePow, Int.reduceNeg, Nat.reduceMul, Int.reduceMul, Int.reduceAdd, Int.reduceSub, Nat.reduceAdd, Nat.reduceSub, Nat.reduceLeDiff, Int.reduceLT, Int.reduceLE, Int.reduceEq, Int.reduceMod, Int.reduceDiv, reduceCtorEq, not_true_eq_false, not_false_eq_true]) | refine vIfE_of (fun _ => ?_) (fun _ => ?_) | refine vIfD_of (fun _ => ?_) (fun _ => ?_) | refine vIfQ_of (fun _ => ?_) (fun _ => ?_) | refine vIfV_of (fun _ => ?_) (fun _ => ?_) | refine And.intro (by omega) ?_ | refine drawn_q ?_ | fail)
      have x5' := own_obj x5 x1 (hrec _ _) gE
      refine .inl ⟨⟨by omega, ⟨World.putObj_heap_same (Array.getElem?_eq_some_iff.1 x1).1, heap_chg x2 gE (by simp; omega), gE.later x3 (by simp; omega), _, z4.chg gE (by simp; omega), by simpa using x5'⟩, xb.chg gE (by simp; omega)⟩, xk.chg gE (by simp; omega), hsu.later (gE.later x3 (by simp; omega))⟩
  · repeat' (first | (simp (disch := omega) only [push_cast, ↓reduceIte, Nat.reduceEqDiff, Int.reduceToNat, Nat.reducePow, Int.reducePow, Int.reduceNeg, Nat.reduceMul, Int.reduceMul, Int.reduceAdd, Int.reduceSub, Nat.reduceAdd, Nat.reduceSub, Nat.reduceLeDiff, Int.reduceLT, Int.reduceLE, Int.reduceEq, Int.reduceMod, Int.reduceDiv, reduceCtorEq, not_true_eq_false, not_false_eq_true]) | refine vIfE_of (fun _ => ?_) (fun _ => ?_) | refine vIfD_of (fun _ => ?_) (fun _ => ?_) | refine vIfQ_of (fun _ => ?_) (fun _ => ?_) | refine vIfV_of (fun _ => ?_) (fun _ => ?_) | refine And.intro (by omega) ?_ | refine drawn_q ?_ | fail)
    generalize w.alloc (.cells #[.int .i64 0] 3) = wb at *
    have em : mn (stp l) = 0 := by
      have : stp l = [] := List.length_eq_zero_iff.1 (by rw [stp_len]; omega)
      rw [this]; rfl
    have bb : Blk wb w.heap.size #[.int .i64 (mn (stp l))] 3 := by rw [em]; exact Bb
    have hu := lb
    have hsz : w.heap.size < wb.heap.size := by omega
    generalize wb = u at *
    have B1 := Blk.new u #[.slice none 0 0] 45
    have bb1 := bb.alloc (.cells #[.slice none 0 0] 45)
    have s1 := World.size_alloc u (.cells #[.slice none 0 0] 45)
    have l1' := later_alloc u (.cells #[.slice none 0 0] 45)
    generalize u.alloc (.cells #[.slice none 0 0] 45) = u1 at *
    refine (steps_c _ l u1 (hs.later (hu.trans l1'))).mono ?_
    rintro _ u2 ⟨rfl, hw2⟩
    have Bk' := Blk.new u1 #[.slice o l.length c] 35
    have B2 := B1.alloc (.cells #[.slice o l.length c] 35)
    have bb2 := bb1.alloc (.cells #[.slice o l.length c] 35)
    have s2 := World.size_alloc u1 (.cells #[.slice o l.length c] 35)
    have l2' := later_alloc u1 (.cells #[.slice o l.length c] 35)
    rw [← hw2] at Bk' B2 bb2 s2 l2'
    repeat' (first | (simp (disch := omega) only [push_cast, ↓reduceIte, Nat.reduceEqDiff, Int.reduceToNat, Nat.reducePow, Int.reducePow, Int.reduceNeg, Nat.reduceMul, Int.reduceMul, Int.reduceAdd, Int.reduceSub, Nat.reduceAdd, Nat.reduceSub, Nat.reduceLeDiff, Int.reduceLT, Int.reduceLE, Int.reduceEq, Int.reduceMod, Int.reduceDiv, reduceCtorEq, not_true_eq_false, not_false_eq_true]) | refine vIfE_of (fun _ => ?_) (fun _ => ?_) | refine vIfD_of (fun _ => ?_) (fun _ => ?_) | refine vIfQ_of (fun _ => ?_) (fun _ => ?_) | refine vIfV_of (fun _ => ?_) (fun _ => ?_) | refine And.intro (by omega) ?_ | refine drawn_q ?_ | fail)
    refine rngC_of hb65 ?_
    rintro D L rec hrec hD hL hyl
    have hDe : D = u.heap.size + 2 := by omega
    have hLe : L = u.heap.size + 3 := by omega
    have hrL : ((u2.alloc (.deferred (some []))).alloc (rec .ready .normal)).heap[L]? = some (rec .ready .normal) := by
      have := World.alloc_heap_new (u2.alloc (.deferred (some []))) (rec .ready .normal)
      rw [World.size_alloc] at this
      rw [hL]; exact this
    have hrD : ((u2.alloc (.deferred (some []))).alloc (rec .ready .normal)).heap[D]? = some (.deferred (some [])) := by
      rw [hD]
      exact heap_later (World.alloc_heap_new u2 _) (later_alloc _ _)
    have hl3 := later_two u2 (.deferred (some [])) (rec .ready .normal)
    generalize (u2.alloc (.deferred (some []))).alloc (rec .ready .normal) = u3 at *
    have hu3 := (l1'.trans l2').trans hl3
    have Bk3 := Bk'.chg (Chg.of_later (ks := []) hl3) (by simp)
    have B3 := B2.chg (Chg.of_later (ks := []) hl3) (by simp)
    have bb3 := bb2.chg (Chg.of_later (ks := []) hl3) (by simp)
    have hsu := h.later hu
    subst hDe
    have hstc := step_c L u1.heap.size o c l (fun i w' => i ≤ l.length - 1 ∧ LpS u w' u.heap.size L (u.heap.size + 2) (rec .ready .normal) 45 47 ((rsN l (mn (stp l)) i).map u64v) ∧ Blk w' w.heap.size #[.int .i64 (mn (stp l))] 3) (fun _ => False) u3 Bk3 (hsu.later hu3) (by omega)
      ⟨by omega, ⟨hrL, hrD, hu3, _, B3, own_nil _ _ _ _⟩, bb3⟩ (fun i w1 w2 h hl => ⟨h.1, h.2.1.step hl, h.2.2.chg (Chg.of_later (ks := []) hl) (by simp)⟩) ?_
    · refine hstc.mono ?_
      rintro _ w4 (⟨_, hS, hbb⟩ | hF)
      · obtain ⟨r1, r2, r3, ov, r4, r5⟩ := hS
        have g1 := chg_putObj w4 (L := L) (ks := [L]) (by simp) (rec .exhausted .normal)
        have hd := heap_chg r2 g1 (by simp; omega)
        have ho := own_obj r5 r1 (hrec _ _) g1
        have hbr := r4.chg g1 (by simp; omega)
        have bbf := hbb.chg g1 (by simp; omega)
        have hlat := g1.later r3 (by simp; omega)
        refine .inl ⟨r1, ?_⟩
        have ho : OwnW (w4.putObj L (rec .exhausted .normal)) u.heap.size 47 ov (rs l) := by
          unfold OwnW rs; simpa using ho
        obtain ⟨ow, cw, hvw⟩ := ho.slice
        subst hvw
        have hrl := rs_len l
        have h64 := wid_64 (rs l)
        repeat' (first | (simp (disch := omega) only [push_cast, ↓reduceIte, Nat.reduceEqDiff, Int.reduceToNat, Nat.reducePow, Int.reducePow, Int.reduceNeg, Nat.reduceMul, Int.reduceMul, Int.reduceAdd, Int.reduceSub, Nat.reduceAdd, Nat.reduceSub, Nat.reduceLeDiff, Int.reduceLT, Int.reduceLE, Int.reduceEq, Int.reduceMod, Int.reduceDiv, reduceCtorEq, not_true_eq_false, not_false_eq_true]) | refine vIfE_of (fun _ => ?_) (fun _ => ?_) | refine vIfD_of (fun _ => ?_) (fun _ => ?_) | refine vIfQ_of (fun _ => ?_) (fun _ => ?_) | refine vIfV_of (fun _ => ?_) (fun _ => ?_) | refine And.intro (by omega) ?_ | refine drawn_q ?_ | fail)
        generalize w4.putObj L (rec .exhausted .normal) = w5 at *
        have cr : w5.cell? ⟨u.heap.size, 0, none⟩ = some (.slice ow (rs l).length cw) := hbr.cell 0
        have cb : w5.cell? ⟨w.heap.size, 0, none⟩ = some (.int .i64 (mn (stp l))) := bbf.cell 0
        repeat' (first | (simp (disch := omega) only [push_cast, ↓reduceIte, Nat.reduceEqDiff, Int.reduceToNat, Nat.reducePow, Int.reducePow, Int.reduceNeg, Nat.reduceMul, Int.reduceMul, Int.reduceAdd, Int.reduceSub, Nat.reduceAdd, Nat.reduceSub, Nat.reduceLeDiff, Int.reduceLT, Int.reduceLE, Int.reduceEq, Int.reduceMod, Int.reduceDiv, reduceCtorEq, not_true_eq_false, not_false_eq_true, cr]) | refine vIfE_of (fun _ => ?_) (fun _ => ?_) | refine vIfD_of (fun _ => ?_) (fun _ => ?_) | refine vIfQ_of (fun _ => ?_) (fun _ => ?_) | refine vIfV_of (fun _ => ?_) (fun _ => ?_) | refine And.intro (by omega) ?_ | refine drawn_q ?_ | fail)
        refine (width_c _ (rs l) w5 ho.sl).mono ?_
        rintro _ w0 ⟨rfl, hw⟩
        obtain rfl := hw.symm
        repeat' (first | (simp (disch := omega) only [push_cast, ↓reduceIte, Nat.reduceEqDiff, Int.reduceToNat, Nat.reducePow, Int.reducePow, Int.reduceNeg, Nat.reduceMul, Int.reduceMul, Int.reduceAdd, Int.reduceSub, Nat.reduceAdd, Nat.reduceSub, Nat.reduceLeDiff, Int.reduceLT, Int.reduceLE, Int.reduceEq, Int.reduceMod, Int.reduceDiv, reduceCtorEq, not_true_eq_false, not_false_eq_true, cr]) | refine vIfE_of (fun _ => ?_) (fun _ => ?_) | refine vIfD_of (fun _ => ?_) (fun _ => ?_) | refine vIfQ_of (fun _ => ?_) (fun _ => ?_) | refine vIfV_of (fun _ => ?_) (fun _ => ?_) | refine And.intro (by omega) ?_ | refine drawn_q ?_ | fail)
        refine (pack_c _ (rs l) (wid (rs l)) w5 ho.sl (by omega) (by omega)).mono ?_
        rintro _ w6 ⟨⟨x, rfl, hx⟩, hl6⟩
        rw [(pack_rs l hb).1]
        rw [(pack_rs l hb).2] at hx
        obtain ⟨ox, cx, hvx⟩ := hx.slice
        subst hvx
        have hl06 := (hu.trans hlat).trans hl6
        have cb6 := hl6.cell cb
        obtain ⟨a, rfl⟩ := h.some (show 0 < l.length by omega)
        have c0 : w6.cell? a = some (.int .i64 (at_ l 0)) := by
          have := (h.later hl06).atI (show 0 < l.length by omega)
          rwa [addr_add_zero] at this
        repeat' (first | (simp (disch := omega) only [push_cast, ↓reduceIte, Nat.reduceEqDiff, Int.reduceToNat, Nat.reducePow, Int.reducePow, Int.reduceNeg, Nat.reduceMul, Int.reduceMul, Int.reduceAdd, Int.reduceSub, Nat.reduceAdd, Nat.reduceSub, Nat.reduceLeDiff, Int.reduceLT, Int.reduceLE, Int.reduceEq, Int.reduceMod, Int.reduceDiv, reduceCtorEq, not_true_eq_false, not_false_eq_true]) | refine vIfE_of (fun _ => ?_) (fun _ => ?_) | refine vIfD_of (fun _ => ?_) (fun _ => ?_) | refine vIfQ_of (fun _ => ?_) (fun _ => ?_) | refine vIfV_of (fun _ => ?_) (fun _ => ?_) | refine And.intro (by omega) ?_ | fail)
        refine drawn_k 9 ?_
        repeat' (first | (simp (disch := omega) only [push_cast, ↓reduceIte, Nat.reduceEqDiff, Int.reduceToNat, Nat.reducePow, Int.reducePow, Int.reduceNeg, Nat.reduceMul, Int.reduceMul, Int.reduceAdd, Int.reduceSub, Nat.reduceAdd, Nat.reduceSub, Nat.reduceLeDiff, Int.reduceLT, Int.reduceLE, Int.reduceEq, Int.reduceMod, Int.reduceDiv, reduceCtorEq, not_true_eq_false, not_false_eq_true, c0, cb6]) | refine vIfE_of (fun _ => ?_) (fun _ => ?_) | refine vIfD_of (fun _ => ?_) (fun _ => ?_) | refine vIfQ_of (fun _ => ?_) (fun _ => ?_) | refine vIfV_of (fun _ => ?_) (fun _ => ?_) | refine And.intro (by omega) ?_ | fail)
        refine NFn.of hb38 (fun v w' => OwnB w' w6.heap.size 5 v (zi l.length)) (stb_own _ _ _ _) (fun w' hl' => (zInt_o (.slice none 0 0) [] l.length w' w6.heap.size hI (Sl.nil _) (by simp) hl'.size)) ?_
        repeat' (first | (simp (disch := omega) only [push_cast, ↓reduceIte, Nat.reduceEqDiff, Int.reduceToNat, Nat.reducePow, Int.reducePow, Int.reduceNeg, Nat.reduceMul, Int.reduceMul, Int.reduceAdd, Int.reduceSub, Nat.reduceAdd, Nat.reduceSub, Nat.reduceLeDiff, Int.reduceLT, Int.reduceLE, Int.reduceEq, Int.reduceMod, Int.reduceDiv, reduceCtorEq, not_true_eq_false, not_false_eq_true, c0, cb6]) | refine vIfE_of (fun _ => ?_) (fun _ => ?_) | refine vIfD_of (fun _ => ?_) (fun _ => ?_) | refine vIfQ_of (fun _ => ?_) (fun _ => ?_) | refine vIfV_of (fun _ => ?_) (fun _ => ?_) | refine And.intro (by omega) ?_ | fail)
        refine nR_call hb38 (fun v w' => OwnB w' w6.heap.size 5 v (zi l.length ++ zi (at_ l 0))) (stb_own _ _ _ _) ?_ ?_
        · intro σ' w' hl' hp
          have p1 := psis_V hp (t := 47) (by simp) rfl
          have p2 : σ' 50 = .int .i64 (at_ l 0) := (psis_v hp (t := 50) (by simp) rfl).trans (by simp (disch := omega) only [push_cast, ↓reduceIte, Nat.reduceEqDiff, Int.reduceToNat, Nat.reducePow, Int.reducePow, Int.reduceNeg, Nat.reduceMul, Int.reduceMul, Int.reduceAdd, Int.reduceSub, Nat.reduceAdd, Nat.reduceSub, Nat.reduceLeDiff, Int.reduceLT, Int.reduceLE, Int.reduceEq, Int.reduceMod, Int.reduceDiv, reduceCtorEq, not_true_eq_false, not_false_eq_true])
          have ea : (#[Operand.tmp 47, Operand.tmp 50] : Array Operand).map (ev σ') = #[σ' 47, σ' 50] := by simp [ev]
          rw [ea, p2]
          exact zInt_o _ _ _ w' _ (at_i64 hok 0) p1.sl (by first | omega | (simp; omega)) hl'.size
        repeat' (first | (simp (disch := omega) only [push_cast, ↓reduceIte, Nat.reduceEqDiff, Int.reduceToNat, Nat.reducePow, Int.reducePow, Int.reduceNeg, Nat.reduceMul, Int.reduceMul, Int.reduceAdd, Int.reduceSub, Nat.reduceAdd, Nat.reduceSub, Nat.reduceLeDiff, Int.reduceLT, Int.reduceLE, Int.reduceEq, Int.reduceMod, Int.reduceDiv, reduceCtorEq, not_true_eq_false, not_false_eq_true, c0, cb6]) | refine vIfE_of (fun _ => ?_) (fun _ => ?_) | refine vIfD_of (fun _ => ?_) (fun _ => ?_) | refine vIfQ_of (fun _ => ?_) (fun _ => ?_) | refine vIfV_of (fun _ => ?_) (fun _ => ?_) | refine And.intro (by omega) ?_ | fail)
        refine nR_call hb38 (fun v w' => OwnB w' w6.heap.size 5 v ((zi l.length ++ zi (at_ l 0)) ++ zi (mn (stp l)))) (stb_own _ _ _ _) ?_ ?_
        · intro σ' w' hl' hp
          have p1 := psis_V hp (t := 51) (by simp) rfl
          have p2 : σ' 52 = .int .i64 (mn (stp l)) := (psis_v hp (t := 52) (by simp) rfl).trans (by simp (disch := omega) only [push_cast, ↓reduceIte, Nat.reduceEqDiff, Int.reduceToNat, Nat.reducePow, Int.reducePow, Int.reduceNeg, Nat.reduceMul, Int.reduceMul, Int.reduceAdd, Int.reduceSub, Nat.reduceAdd, Nat.reduceSub, Nat.reduceLeDiff, Int.reduceLT, Int.reduceLE, Int.reduceEq, Int.reduceMod, Int.reduceDiv, reduceCtorEq, not_true_eq_false, not_false_eq_true])
          have ea : (#[Operand.tmp 51, Operand.tmp 52] : Array Operand).map (ev σ') = #[σ' 51, σ' 52] := by simp [ev]
          rw [ea, p2]
          exact zInt_o _ _ _ w' _ (base_in l) p1.sl (by first | omega | (simp; omega)) hl'.size
        repeat' (first | (simp (disch := omega) only [push_cast, ↓reduceIte, Nat.reduceEqDiff, Int.reduceToNat, Nat.reducePow, Int.reducePow, Int.reduceNeg, Nat.reduceMul, Int.reduceMul, Int.reduceAdd, Int.reduceSub, Nat.reduceAdd, Nat.reduceSub, Nat.reduceLeDiff, Int.reduceLT, Int.reduceLE, Int.reduceEq, Int.reduceMod, Int.reduceDiv, reduceCtorEq, not_true_eq_false, not_false_eq_true, c0, cb6]) | refine vIfE_of (fun _ => ?_) (fun _ => ?_) | refine vIfD_of (fun _ => ?_) (fun _ => ?_) | refine vIfQ_of (fun _ => ?_) (fun _ => ?_) | refine vIfV_of (fun _ => ?_) (fun _ => ?_) | refine And.intro (by omega) ?_ | fail)
        intro w7 hl7 x53 hx53 x51 _ x47 _
        repeat' (first | (simp (disch := omega) only [push_cast, ↓reduceIte, Nat.reduceEqDiff, Int.reduceToNat, Nat.reducePow, Int.reducePow, Int.reduceNeg, Nat.reduceMul, Int.reduceMul, Int.reduceAdd, Int.reduceSub, Nat.reduceAdd, Nat.reduceSub, Nat.reduceLeDiff, Int.reduceLT, Int.reduceLE, Int.reduceEq, Int.reduceMod, Int.reduceDiv, reduceCtorEq, not_true_eq_false, not_false_eq_true]) | refine vIfE_of (fun _ => ?_) (fun _ => ?_) | refine vIfD_of (fun _ => ?_) (fun _ => ?_) | refine vIfQ_of (fun _ => ?_) (fun _ => ?_) | refine vIfV_of (fun _ => ?_) (fun _ => ?_) | refine And.intro (by omega) ?_ | refine drawn_q ?_ | fail)
        refine (zInt_o x53 _ (wid (rs l)) w7 w6.heap.size (by unfold I64; omega) hx53.sl (by simp; omega) hl7.size).mono ?_
        rintro v8 w8 ⟨ho8, hl8⟩
        obtain ⟨o8, c8, hv8⟩ := ho8.slice
        subst hv8
        have hl68 := hl7.trans hl8
        have hap := apart_of hx ho8 (Nat.le_refl _)
        repeat' (first | (simp (disch := omega) only [push_cast, ↓reduceIte, Nat.reduceEqDiff, Int.reduceToNat, Nat.reducePow, Int.reducePow, Int.reduceNeg, Nat.reduceMul, Int.reduceMul, Int.reduceAdd, Int.reduceSub, Nat.reduceAdd, Nat.reduceSub, Nat.reduceLeDiff, Int.reduceLT, Int.reduceLE, Int.reduceEq, Int.reduceMod, Int.reduceDiv, reduceCtorEq, not_true_eq_false, not_false_eq_true]) | refine vIfE_of (fun _ => ?_) (fun _ => ?_) | refine vIfD_of (fun _ => ?_) (fun _ => ?_) | refine vIfQ_of (fun _ => ?_) (fun _ => ?_) | refine vIfV_of (fun _ => ?_) (fun _ => ?_) | refine And.intro (by omega) ?_ | refine drawn_q ?_ | fail)
        refine app_bytes Try.underlying36 ho8 (hx.later hl68).sl (by simp; omega) hl68.size (hx.later hl68) (fun k hk hk' => hap k hk' hk) ?_
        intro v9 w9 ho9 hx9 hap9 hk9 hsz9
        have hl69 := hk9 w6 hl68 (Nat.le_refl _)
        have hdF := heap_later hd (hl6.trans hl69)
        obtain ⟨o9, c9, hv9⟩ := ho9.slice
        subst hv9
        have gF := chg_putObj w9 (L := u.heap.size + 2) (ks := [u.heap.size + 2]) (by simp) (.deferred none)
        have hoF := own_obj ho9 hdF rfl gF
        have hlF := gF.later (hl06.trans hl69) (by simp; omega)
        have hoF : OwnB _ w.heap.size 5 _ _ := own_base hoF hl06.size
        repeat' (first | (simp (disch := omega) only [push_cast, ↓reduceIte, Nat.reduceEqDiff, Int.reduceToNat, Nat.reducePow, Int.reducePow, Int.reduceNeg, Nat.reduceMul, Int.reduceMul, Int.reduceAdd, Int.reduceSub, Nat.reduceAdd, Nat.reduceSub, Nat.reduceLeDiff, Int.reduceLT, Int.reduceLE, Int.reduceEq, Int.reduceMod, Int.reduceDiv, reduceCtorEq, not_true_eq_false, not_false_eq_true]) | refine vIfE_of (fun _ => ?_) (fun _ => ?_) | refine vIfD_of (fun _ => ?_) (fun _ => ?_) | refine vIfQ_of (fun _ => ?_) (fun _ => ?_) | refine vIfV_of (fun _ => ?_) (fun _ => ?_) | refine And.intro (by omega) ?_ | refine drawn_q ?_ | fail)
        refine ⟨enc_ok hb ?_, hlF⟩
        rw [henc]; exact hoF
      · exact hF.elim
    · intro i q1 _ hlt; omega
end Go.Proofs.Ytdfdohajjgjbdaa
