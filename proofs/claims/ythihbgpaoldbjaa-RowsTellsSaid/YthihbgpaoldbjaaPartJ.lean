/- Contracts: the row of an event: the program's, the document's. -/
import Derived.Test.YthihbgpaoldbjaaPartI
set_option linter.all false
open Nat renaming reduceEqDiff → zA, reducePow → zB, reduceMul → zC, reduceAdd → zD, reduceSub → zE, reduceLeDiff → zF
open Int renaming reduceToNat → zG, reducePow → zH, reduceNeg → zI, reduceMul → zJ, reduceAdd → zK, reduceSub → zL, reduceLT → zM, reduceLE → zN, reduceEq → zO, reduceMod → zP, reduceDiv → zQ
section
set_option linter.unusedSimpArgs false
namespace Go.Proofs.Ythihbgpaoldbjaa
open Go.Vc Go.Key Go.Fold
set_option maxRecDepth 100000
/-- The agg of one number. -/
def one3 (n : Int) : Ag := (n, n, n)
/-- What either Of answers. -/
def OfR (nd nm : Nat) (y : Ev) (z : El) (e : Int) : Prop := e = evErr nd nm y ∧ ((e ≠ 0 ∧ z.abs = (0, [], 0, [])) ∨ (e = 0 ∧ z.abs = (y.t, y.d, 1, y.k.map one3)))
/-- What holds between the rounds of Of. -/
structure OS (w w' : World) (b : Nat) (y : Ev) (u : Value) (i : Nat) : Prop where
  le : i ≤ y.k.length
  later : Later w w'
  by_ : Blk w' (w.heap.size + 1) #[.int .i64 y.t, y.dv, y.kv] 49
  bz : Blk w' (w.heap.size + 2) #[.int .i64 0, .slice none 0 0, .int .i64 0, .slice none 0 0] 35
  cur : ∃ av, Blk w' b (elC ⟨y.t, y.d, 1, (y.k.take i).map one3, u, av⟩).toArray 35 ∧ EO w' w.heap.size ⟨y.t, y.d, 1, (y.k.take i).map one3, u, av⟩
theorem OS.step {w w1 w2 : World} {b i : Nat} {y : Ev} {u : Value} (h : OS w w1 b y u i) (hl : Later w1 w2) : OS w w2 b y u i := by
  obtain ⟨h0, h1, h3, h4, av, h5, h6⟩ := h
  have c := Chg.of_later (ks := []) hl
  exact ⟨h0, h1.trans hl, h3.chg c (by simp), h4.chg c (by simp), av, h5.chg c (by simp), h6.later hl⟩
set_option maxHeartbeats 1000000 in
theorem of_c (dv mv : Value) (d m : List ByteArray) (y : Ev) (w : World) (h : ScIs w dv mv d m) (hy : EvIs w y) (hd6 : d.length ≤ 1000) (hm6 : m.length ≤ 1000) (hC : CanyL y.d) :
    FnC Try.prog 25 #[scV dv mv, evV y] w fun r w' => ∃ z e, r = .tuple #[elV z, .int .i64 e] ∧ OfR d.length m.length y z e ∧ EO w' w.heap.size z ∧ Later w w' := by
  unfold scV evV
  refine enter25 _ _ ?_
  unfold B25
  obtain ⟨l2, s2, F⟩ := boxSE w dv mv y
  have s1 := World.size_alloc w (.cells #[dv, mv] 24)
  have eca : (Value.agg #[dv, mv]).cells = #[dv, mv] := rfl
  have ecb : (Value.agg #[.int .i64 y.t, y.dv, y.kv]).cells = #[.int .i64 y.t, y.dv, y.kv] := rfl
  have By : ∀ w', Later ((w.alloc (.cells #[dv, mv] 24)).alloc (.cells #[.int .i64 y.t, y.dv, y.kv] 49)) w' → Blk w' (w.heap.size + 1) #[.int .i64 y.t, y.dv, y.kv] 49 := fun w' hl => by
    have := (Blk.new (w.alloc (.cells #[dv, mv] 24)) #[.int .i64 y.t, y.dv, y.kv] 49).chg (Chg.of_later (ks := []) hl) (by simp)
    rwa [s1] at this
  repeat' (first | (simp (disch := omega) only [push_cast, ↓reduceIte, zA, zG, zB, zH, zI, zC, zJ, zK, zL, zD, zE, zF, zM, zN, zO, zP, zQ, reduceCtorEq, not_true_eq_false, not_false_eq_true, eca, ecb, s1, s2]) | (first | refine vIfE_of ?_ ?_ | refine vIfD_of ?_ ?_ | refine vIfQ_of ?_ ?_ | refine vIfV_of ?_ ?_) <;> intro _ | refine And.intro (by omega) ?_ | fail)
  generalize ((w.alloc (.cells #[dv, mv] 24)).alloc (.cells #[.int .i64 y.t, y.dv, y.kv] 49)) = w2 at *
  have l3 := later_alloc w2 (.cells #[.int .i64 0, .slice none 0 0, .int .i64 0, .slice none 0 0] 35)
  have B3 := Blk.new w2 #[.int .i64 0, .slice none 0 0, .int .i64 0, .slice none 0 0] 35
  rw [s2] at B3
  generalize w2.alloc (.cells #[.int .i64 0, .slice none 0 0, .int .i64 0, .slice none 0 0] 35) = w3 at *
  have G := fun w' (hl : Later w3 w') => F w' (l3.trans hl)
  have Gy := fun w' (hl : Later w3 w') => By w' (l3.trans hl)
  have l03 := l2.trans l3
  clear F By eca ecb s1
  obtain ⟨_, _, a2, b0, b1, b2, b3⟩ := G w3 (Later.refl _)
  have hbig : w.heap.size + 2 < w3.heap.size := B3.lt
  repeat' (first | (simp (disch := omega) only [push_cast, ↓reduceIte, zA, zG, zB, zH, zI, zC, zJ, zK, zL, zD, zE, zF, zM, zN, zO, zP, zQ, reduceCtorEq, not_true_eq_false, not_false_eq_true, a2, b3]) | (first | refine vIfE_of ?_ ?_ | refine vIfD_of ?_ ?_ | refine vIfQ_of ?_ ?_ | refine vIfV_of ?_ ?_) <;> intro _ | refine And.intro (by omega) ?_ | refine drawn_q ?_ | fail)
  refine (check_c dv mv d m y w3 (h.later l03) (hy.later l03) hC).mono ?_
  rintro _ w4 ⟨rfl, l4⟩
  have B4 := B3.chg (Chg.of_later (ks := []) l4) (by simp)
  obtain ⟨er, her⟩ : ∃ er, er = evErr d.length m.length y := ⟨_, rfl⟩
  rw [← her]
  by_cases he : er = 0
  case neg =>
    have hj : OfR d.length m.length y z0 er := ⟨her, .inl ⟨he, rfl⟩⟩
    repeat' (first | (simp (disch := omega) only [push_cast, ↓reduceIte, zA, zG, zB, zH, zI, zC, zJ, zK, zL, zD, zE, zF, zM, zN, zO, zP, zQ, reduceCtorEq, not_true_eq_false, not_false_eq_true]) | (first | refine vIfE_of ?_ ?_ | refine vIfD_of ?_ ?_ | refine vIfQ_of ?_ ?_ | refine vIfV_of ?_ ?_) <;> intro _ | refine And.intro (by omega) ?_ | refine drawn_q ?_ | fail)
    refine vStore_blk (l := [.int .i64 0, .slice none 0 0, .int .i64 0, .slice none 0 0]) (xs := elC z0) B4 rfl rfl (elC_one (EO.zero w4 0).is) ?_
    intro w9 B9 c9
    repeat' (first | (simp (disch := omega) only [push_cast, ↓reduceIte, zA, zG, zB, zH, zI, zC, zJ, zK, zL, zD, zE, zF, zM, zN, zO, zP, zQ, reduceCtorEq, not_true_eq_false, not_false_eq_true]) | (first | refine vIfE_of ?_ ?_ | refine vIfD_of ?_ ?_ | refine vIfQ_of ?_ ?_ | refine vIfV_of ?_ ?_) <;> intro _ | refine And.intro (by omega) ?_ | refine drawn_q ?_ | fail)
    refine resK_cells (s := 4) (by simp (disch := omega) only [push_cast, ↓reduceIte, zA, zG, zB, zH, zI, zC, zJ, zK, zL, zD, zE, zF, zM, zN, zO, zP, zQ, reduceCtorEq, not_true_eq_false, not_false_eq_true]) (by rw [Try.underlying35]; exact sz35) (Blk.cellsAt (l := elC z0) B9) ?_
    repeat' (first | (simp (disch := omega) only [push_cast, ↓reduceIte, zA, zG, zB, zH, zI, zC, zJ, zK, zL, zD, zE, zF, zM, zN, zO, zP, zQ, reduceCtorEq, not_true_eq_false, not_false_eq_true]) | (first | refine vIfE_of ?_ ?_ | refine vIfD_of ?_ ?_ | refine vIfQ_of ?_ ?_ | refine vIfV_of ?_ ?_) <;> intro _ | refine And.intro (by omega) ?_ | refine drawn_q ?_ | fail)
    exact ⟨z0, er, rfl, hj, EO.zero _ _, Chg.later (l03.trans l4) c9 (by intro j hj; rw [List.mem_singleton.1 hj]; omega)⟩
  subst he
  have hsizes : y.d.length = d.length ∧ y.k.length = m.length ∧ ∀ n ∈ y.k, Fi n := by
    unfold evErr at her
    split at her
    · cases her
    · rename_i h1
      split at her
      · cases her
      · rename_i h2
        exact ⟨by omega, by omega, Classical.byContradiction fun h => h2 (.inr h)⟩
  obtain ⟨hsd, hsk, hfi⟩ := hsizes
  obtain ⟨_, _, _, b0, b1, b2, b3⟩ := G w4 l4
  have hy4 := hy.later (l03.trans l4)
  repeat' (first | (simp (disch := omega) only [push_cast, ↓reduceIte, zA, zG, zB, zH, zI, zC, zJ, zK, zL, zD, zE, zF, zM, zN, zO, zP, zQ, reduceCtorEq, not_true_eq_false, not_false_eq_true]) | (first | refine vIfE_of ?_ ?_ | refine vIfD_of ?_ ?_ | refine vIfQ_of ?_ ?_ | refine vIfV_of ?_ ?_) <;> intro _ | refine And.intro (by omega) ?_ | fail)
  refine drawn_k 7 ?_
  repeat' (first | (simp (disch := omega) only [push_cast, ↓reduceIte, zA, zG, zB, zH, zI, zC, zJ, zK, zL, zD, zE, zF, zM, zN, zO, zP, zQ, reduceCtorEq, not_true_eq_false, not_false_eq_true, b0, b1, addr_add_eq, Nat.zero_add]) | (first | refine vIfE_of ?_ ?_ | refine vIfD_of ?_ ?_ | refine vIfQ_of ?_ ?_ | refine vIfV_of ?_ ?_) <;> intro _ | refine And.intro (by omega) ?_ | fail)
  have hsz4 : w.heap.size ≤ w4.heap.size := (l03.trans l4).size
  refine NFn.of hb52 (fun v w' => OwnS w' w.heap.size v y.d) (stb_ownS _ _ _) (fun w' hl => (cloneS_c _ _ w' (hy4.later hl).dS (by omega)).mono fun v w'' hv => ⟨own_base hv.1 (Nat.le_trans hsz4 hl.size), hv.2⟩) ?_
  repeat' (first | (simp (disch := omega) only [push_cast, ↓reduceIte, zA, zG, zB, zH, zI, zC, zJ, zK, zL, zD, zE, zF, zM, zN, zO, zP, zQ, reduceCtorEq, not_true_eq_false, not_false_eq_true, b0, b1, addr_add_eq, Nat.zero_add]) | (first | refine vIfE_of ?_ ?_ | refine vIfD_of ?_ ?_ | refine vIfQ_of ?_ ?_ | refine vIfV_of ?_ ?_) <;> intro _ | refine And.intro (by omega) ?_ | fail)
  refine nR_bld (RowB w.heap.size y.t 1 y.d) (stb_rowB _ _ _ _ _) (fun σ' w' hl hp => ?_) ?_
  · obtain ⟨hp35, hp38, _⟩ := hp
    have h35 : σ' 20 = .int .i64 y.t := hp35
    have h38 : OwnS w' w.heap.size (σ' 23) y.d := hp38
    obtain ⟨o3, c3, hv, _⟩ := Sl.openM (Sl.of_own h38 : Sl w' (σ' 23) (y.d.map Value.string))
    rw [hv] at h38
    repeat' (first | (simp (disch := omega) only [push_cast, ↓reduceIte, zA, zG, zB, zH, zI, zC, zJ, zK, zL, zD, zE, zF, zM, zN, zO, zP, zQ, reduceCtorEq, not_true_eq_false, not_false_eq_true, h35, hv]) | (first | refine vIfE_of ?_ ?_ | refine vIfD_of ?_ ?_ | refine vIfQ_of ?_ ?_ | refine vIfV_of ?_ ?_) <;> intro _ | refine And.intro (by omega) ?_ | fail)
    exact ⟨Later.refl _, _, rfl, h38⟩
  repeat' (first | (simp (disch := omega) only [push_cast, ↓reduceIte, zA, zG, zB, zH, zI, zC, zJ, zK, zL, zD, zE, zF, zM, zN, zO, zP, zQ, reduceCtorEq, not_true_eq_false, not_false_eq_true]) | (first | refine vIfE_of ?_ ?_ | refine vIfD_of ?_ ?_ | refine vIfQ_of ?_ ?_ | refine vIfV_of ?_ ?_) <;> intro _ | refine And.intro (by omega) ?_ | fail)
  refine nA_of _ (PtV w4 35 #[.int .i64 0, .slice none 0 0, .int .i64 0, .slice none 0 0]) (stb_pt _ _ _ _) (fun w' hl => ?_) ?_
  · repeat' (first | (simp (disch := omega) only [push_cast, ↓reduceIte, zA, zG, zB, zH, zI, zC, zJ, zK, zL, zD, zE, zF, zM, zN, zO, zP, zQ, reduceCtorEq, not_true_eq_false, not_false_eq_true]) | (first | refine vIfE_of ?_ ?_ | refine vIfD_of ?_ ?_ | refine vIfQ_of ?_ ?_ | refine vIfV_of ?_ ?_) <;> intro _ | refine And.intro (by omega) ?_ | fail)
    exact ⟨later_alloc _ _, w'.heap.size, rfl, hl.size, Blk.new _ _ _⟩
  repeat' (first | (simp (disch := omega) only [push_cast, ↓reduceIte, zA, zG, zB, zH, zI, zC, zJ, zK, zL, zD, zE, zF, zM, zN, zO, zP, zQ, reduceCtorEq, not_true_eq_false, not_false_eq_true]) | (first | refine vIfE_of ?_ ?_ | refine vIfD_of ?_ ?_ | refine vIfQ_of ?_ ?_ | refine vIfV_of ?_ ?_) <;> intro _ | refine And.intro (by omega) ?_ | fail)
  rintro w5 l5 _ ⟨b, rfl, hb4, Bb⟩ _ ⟨u, rfl, hu⟩ _ _ 
  obtain ⟨ou, cu, rfl, _⟩ := Sl.openM (Sl.of_own hu : Sl w5 u (y.d.map Value.string))
  have hE0 : EO w5 w.heap.size ⟨y.t, y.d, 1, [], .slice ou y.d.length cu, .slice none 0 0⟩ := ⟨hu, OwnR.nil _ _ _⟩
  generalize hU : Value.slice ou y.d.length cu = U at *
  refine vStore_blk (l := [.int .i64 0, .slice none 0 0, .int .i64 0, .slice none 0 0]) (xs := elC ⟨y.t, y.d, 1, [], U, .slice none 0 0⟩) Bb rfl rfl (elC_one hE0.is) ?_
  intro w6 Bb6 c6
  have l35 := l4.trans l5
  have hb2 : w.heap.size + 2 < b := Nat.lt_of_lt_of_le hbig (Nat.le_trans l4.size hb4)
  have B35 := B3.chg (Chg.of_later (ks := []) l35) (by simp)
  have by5 := Gy w5 l35
  have J0 : OS w w6 b y U 0 := ⟨by omega, Chg.later (l03.trans l35) c6 (by intro j hj; rw [List.mem_singleton.1 hj]; omega), by5.chg c6 (by simp; omega), B35.chg c6 (by simp; omega), .slice none 0 0, Bb6, hE0.chg Bb c6⟩
  obtain ⟨ok, ck, hky, gk1, gk2, hyk, _⟩ := Sl.openM hy.kS
  clear hE0 Bb6 c6 Bb B35 by5 G Gy hy4 a2 b0 b1 b2 b3 B3 B4 l2 l3 l03 l4 l5 l35 hu s2
  have f3 : w6.cell? ⟨w.heap.size + 1, 2, none⟩ = some (.slice ok y.k.length ck) := by have := J0.by_.cell 2; rw [← hky]; exact this
  repeat' (first | (simp (disch := omega) only [push_cast, ↓reduceIte, zA, zG, zB, zH, zI, zC, zJ, zK, zL, zD, zE, zF, zM, zN, zO, zP, zQ, reduceCtorEq, not_true_eq_false, not_false_eq_true, f3, addr_add_eq, Nat.zero_add]) | (first | refine vIfE_of ?_ ?_ | refine vIfD_of ?_ ?_ | refine vIfQ_of ?_ ?_ | refine vIfV_of ?_ ?_) <;> intro _ | refine And.intro (by omega) ?_ | refine drawn_q ?_ | fail)
  clear f3
  refine vc_loop W25_0 (fun i : Nat => [(28, .int .i64 (i : Int))]) (fun i w' => OS w w' b y U i) (fun i => y.k.length - i) 0 (by decide) ?_ ?_ ?_
  · simp (disch := omega) only [push_cast, ↓reduceIte, zA, zG, zB, zH, zI, zC, zJ, zK, zL, zD, zE, zF, zM, zN, zO, zP, zQ, reduceCtorEq, not_true_eq_false, not_false_eq_true]
  · exact J0
  clear J0
  rintro i uu w7 J
  have hle := J.le
  by_cases hlt : i < y.k.length
  · obtain ⟨aa, rfl⟩ := hyk.some hlt
    have f1 := (hyk.later J.later).atI hlt
    have f3 : w7.cell? ⟨w.heap.size + 1, 2, none⟩ = some (.slice (some aa) y.k.length ck) := by have := J.by_.cell 2; rw [← hky]; exact this
    have hFn := hfi _ (List.getElem_mem hlt)
    have htk : (y.k.take (i + 1)).map one3 = (y.k.take i).map one3 ++ [one3 y.k[i]] := by rw [take_snoc y.k i hlt, List.map_append]; rfl
    generalize y.k[i] = n at *
    repeat' (first | (simp (disch := omega) only [push_cast, ↓reduceIte, zA, zG, zB, zH, zI, zC, zJ, zK, zL, zD, zE, zF, zM, zN, zO, zP, zQ, reduceCtorEq, not_true_eq_false, not_false_eq_true, f1, f3, addr_add_eq, Nat.zero_add]) | (first | refine vIfE_of ?_ ?_ | refine vIfD_of ?_ ?_ | refine vIfQ_of ?_ ?_ | refine vIfV_of ?_ ?_) <;> intro _ | refine And.intro (by omega) ?_ | refine drawn_q ?_ | fail)
    refine (aone_c n w7 hFn).mono ?_
    rintro _ w8 ⟨rfl, l8⟩
    have J8 := J.step l8
    repeat' (first | (simp (disch := omega) only [push_cast, ↓reduceIte, zA, zG, zB, zH, zI, zC, zJ, zK, zL, zD, zE, zF, zM, zN, zO, zP, zQ, reduceCtorEq, not_true_eq_false, not_false_eq_true]) | (first | refine vIfE_of ?_ ?_ | refine vIfD_of ?_ ?_ | refine vIfQ_of ?_ ?_ | refine vIfV_of ?_ ?_) <;> intro _ | refine And.intro (by omega) ?_ | refine drawn_q ?_ | fail)
    refine vStore_new rfl rfl (by intro u hu; exact agC_one (n, n, n) u (by simpa [agC] using hu)) ?_
    have l9 := later_alloc w8 (.cells #[.int .i64 n, .int .i64 n, .int .i64 n] 64)
    have B9 := Blk.new w8 #[.int .i64 n, .int .i64 n, .int .i64 n] 64
    generalize w8.alloc (.cells #[.int .i64 n, .int .i64 n, .int .i64 n] 64) = w10 at *
    generalize w8.heap.size = b9 at *
    have J10 := J8.step l9
    have f10' : cellsAt w10 ⟨b9, 0, none⟩ 3 = some [.int .i64 n, .int .i64 n, .int .i64 n] := Blk.cellsAt (l := agC (n, n, n)) B9
    clear B9 l9 J8 l8 J
    obtain ⟨_, hla, hby, hbz, av', Bc', hE'⟩ := J10
    obtain ⟨oa, ca, hav, _⟩ := RecS.slice (OwnR.s hE'.2)
    have hav : av' = .slice oa ((y.k.take i).map one3).length ca := hav
    subst hav
    have hll : ((y.k.take i).map one3).length = i := by simp; omega
    generalize (y.k.take i).map one3 = lst' at *
    have f11 : w10.cell? ⟨b, 3, none⟩ = some (.slice oa lst'.length ca) := Bc'.cell 3
    repeat' (first | (simp (disch := omega) only [push_cast, ↓reduceIte, zA, zG, zB, zH, zI, zC, zJ, zK, zL, zD, zE, zF, zM, zN, zO, zP, zQ, reduceCtorEq, not_true_eq_false, not_false_eq_true, f10', f11, addr_add_eq, Nat.zero_add]) | (first | refine vIfE_of ?_ ?_ | refine vIfD_of ?_ ?_ | refine vIfQ_of ?_ ?_ | refine vIfV_of ?_ ?_) <;> intro _ | refine And.intro (by omega) ?_ | refine drawn_q ?_ | fail)
    have la := later_alloc w10 (.cells #[.int .i64 n, .int .i64 n, .int .i64 n] 64)
    have Bl := Blk.new w10 #[.int .i64 n, .int .i64 n, .int .i64 n] 64
    have hEa := hE'.later la
    have hOA : OwnA (w10.alloc (.cells #[.int .i64 n, .int .i64 n, .int .i64 n] 64)) w.heap.size (.slice oa lst'.length ca) lst' := hEa.2
    refine vAppend_rs agC_len agC_one Try.underlying33 ti64 rfl (by decide) hOA (RecS.lit1 (y := one3 n) (agC_len _) Bl) (by simp only [List.length_cons, List.length_nil]; omega) (by omega) (Nat.le_trans hla.size la.size) ?_
    intro v' w12 ho hg _
    have cl := Chg.of_later (ks := []) la
    have q2 : Blk w12 _ _ 49 := grown_obj hOA hg (hby.chg cl (by simp)) (fun cs h => by simp at h)
    have q3 : Blk w12 _ _ 35 := grown_obj hOA hg (hbz.chg cl (by simp)) (fun cs h => by simp at h)
    have q4 : Blk w12 b _ 35 := grown_obj hOA hg (Bc'.chg cl (by simp)) (fun cs h => by simp at h)
    have q5 := (hla.trans la).appended hOA (Nat.le_refl _) hg
    have q6 : OwnS w12 w.heap.size U y.d := ownS_grown hEa.1 hOA hg
    obtain ⟨o2, c2, hv2, _⟩ := RecS.slice (OwnR.s ho)
    subst hv2
    have hfz := q4.frozen 3
    have hce : ∃ y, w12.cell? ⟨b, 3, none⟩ = some y := ⟨_, q4.cell 3⟩
    have gc := chg_setCell (i := 3) w12 (ks := [b]) (k := b) (by simp) (.slice o2 (lst' ++ [one3 n]).length c2)
    have z5 := q4.set 3 (.slice o2 (lst' ++ [one3 n]).length c2)
    repeat' (first | (simp (disch := omega) only [push_cast, ↓reduceIte, zA, zG, zB, zH, zI, zC, zJ, zK, zL, zD, zE, zF, zM, zN, zO, zP, zQ, reduceCtorEq, not_true_eq_false, not_false_eq_true, hfz, hce, addr_add_eq, Nat.zero_add]) | (first | refine vIfE_of ?_ ?_ | refine vIfD_of ?_ ?_ | refine vIfQ_of ?_ ?_ | refine vIfV_of ?_ ?_) <;> intro _ | refine And.intro (by omega) ?_ | refine drawn_q ?_ | fail)
    have hJ : OS w (w12.setCell ⟨b, 3, none⟩ (.slice o2 (lst' ++ [one3 n]).length c2)) b y U (i + 1) := by
      refine ⟨by omega, gc.later q5 (by intro j hj; rw [List.mem_singleton.1 hj]; omega), q2.chg gc (by simp; omega), q3.chg gc (by simp; omega), .slice o2 (lst' ++ [one3 n]).length c2, ?_, ?_⟩
      · rw [htk]; exact z5
      · rw [htk]; exact ⟨own_chg_ty q6 q4 (by decide) gc, own_chg_ty ho q4 (by decide) gc⟩
    exact ⟨rfl, i + 1, by simp (disch := omega) only [push_cast, ↓reduceIte, zA, zG, zB, zH, zI, zC, zJ, zK, zL, zD, zE, zF, zM, zN, zO, zP, zQ, reduceCtorEq, not_true_eq_false, not_false_eq_true], hJ, by dsimp only; omega⟩
  · have hi : i = y.k.length := by omega
    subst hi
    obtain ⟨av, Bc, hE⟩ := J.cur
    rw [List.take_length] at Bc hE
    have hj : OfR d.length m.length y ⟨y.t, y.d, 1, y.k.map one3, U, av⟩ 0 := ⟨her, .inr ⟨rfl, rfl⟩⟩
    have f4 : cellsAt w7 ⟨b, 0, none⟩ 4 = some (elC ⟨y.t, y.d, 1, y.k.map one3, U, av⟩) := Blk.cellsAt (l := elC ⟨y.t, y.d, 1, y.k.map one3, U, av⟩) Bc
    have f3 : w7.cell? ⟨w.heap.size + 1, 2, none⟩ = some (.slice ok y.k.length ck) := by have := J.by_.cell 2; rw [← hky]; exact this
    repeat' (first | (simp (disch := omega) only [push_cast, ↓reduceIte, zA, zG, zB, zH, zI, zC, zJ, zK, zL, zD, zE, zF, zM, zN, zO, zP, zQ, reduceCtorEq, not_true_eq_false, not_false_eq_true, f3, f4, addr_add_eq, Nat.zero_add]) | (first | refine vIfE_of ?_ ?_ | refine vIfD_of ?_ ?_ | refine vIfQ_of ?_ ?_ | refine vIfV_of ?_ ?_) <;> intro _ | refine And.intro (by omega) ?_ | refine drawn_q ?_ | fail)
    refine vStore_blk (l := [.int .i64 0, .slice none 0 0, .int .i64 0, .slice none 0 0]) (xs := elC ⟨y.t, y.d, 1, y.k.map one3, U, av⟩) J.bz rfl rfl (elC_one hE.is) ?_
    intro w11 B11 c11
    repeat' (first | (simp (disch := omega) only [push_cast, ↓reduceIte, zA, zG, zB, zH, zI, zC, zJ, zK, zL, zD, zE, zF, zM, zN, zO, zP, zQ, reduceCtorEq, not_true_eq_false, not_false_eq_true]) | (first | refine vIfE_of ?_ ?_ | refine vIfD_of ?_ ?_ | refine vIfQ_of ?_ ?_ | refine vIfV_of ?_ ?_) <;> intro _ | refine And.intro (by omega) ?_ | refine drawn_q ?_ | fail)
    refine resK_cells (s := 4) (by simp (disch := omega) only [push_cast, ↓reduceIte, zA, zG, zB, zH, zI, zC, zJ, zK, zL, zD, zE, zF, zM, zN, zO, zP, zQ, reduceCtorEq, not_true_eq_false, not_false_eq_true]) (by rw [Try.underlying35]; exact sz35) (Blk.cellsAt (l := elC ⟨y.t, y.d, 1, y.k.map one3, U, av⟩) B11) ?_
    repeat' (first | (simp (disch := omega) only [push_cast, ↓reduceIte, zA, zG, zB, zH, zI, zC, zJ, zK, zL, zD, zE, zF, zM, zN, zO, zP, zQ, reduceCtorEq, not_true_eq_false, not_false_eq_true]) | (first | refine vIfE_of ?_ ?_ | refine vIfD_of ?_ ?_ | refine vIfQ_of ?_ ?_ | refine vIfV_of ?_ ?_) <;> intro _ | refine And.intro (by omega) ?_ | refine drawn_q ?_ | fail)
    exact ⟨⟨y.t, y.d, 1, y.k.map one3, U, av⟩, 0, rfl, hj, hE.chg J.bz c11, Chg.later J.later c11 (by intro j hj; rw [List.mem_singleton.1 hj]; omega)⟩
set_option maxHeartbeats 1000000 in
theorem dof_c (dv mv : Value) (d m : List ByteArray) (y : Ev) (w : World) (h : ScIs w dv mv d m) (hy : EvIs w y) (hd6 : d.length ≤ 1000) (hm6 : m.length ≤ 1000) (hz : StZ y.d) :
    FnC Try.prog 26 #[scV dv mv, evV y] w fun r w' => ∃ z e, r = .tuple #[elV z, .int .i64 e] ∧ OfR d.length m.length y z e ∧ EO w' w.heap.size z ∧ Later w w' := by
  unfold scV evV
  refine enter26 _ _ ?_
  unfold B26
  obtain ⟨l2, s2, F⟩ := boxSE w dv mv y
  have s1 := World.size_alloc w (.cells #[dv, mv] 24)
  have eca : (Value.agg #[dv, mv]).cells = #[dv, mv] := rfl
  have ecb : (Value.agg #[.int .i64 y.t, y.dv, y.kv]).cells = #[.int .i64 y.t, y.dv, y.kv] := rfl
  have By : ∀ w', Later ((w.alloc (.cells #[dv, mv] 24)).alloc (.cells #[.int .i64 y.t, y.dv, y.kv] 49)) w' → Blk w' (w.heap.size + 1) #[.int .i64 y.t, y.dv, y.kv] 49 := fun w' hl => by
    have := (Blk.new (w.alloc (.cells #[dv, mv] 24)) #[.int .i64 y.t, y.dv, y.kv] 49).chg (Chg.of_later (ks := []) hl) (by simp)
    rwa [s1] at this
  repeat' (first | (simp (disch := omega) only [push_cast, ↓reduceIte, zA, zG, zB, zH, zI, zC, zJ, zK, zL, zD, zE, zF, zM, zN, zO, zP, zQ, reduceCtorEq, not_true_eq_false, not_false_eq_true, eca, ecb, s1, s2]) | (first | refine vIfE_of ?_ ?_ | refine vIfD_of ?_ ?_ | refine vIfQ_of ?_ ?_ | refine vIfV_of ?_ ?_) <;> intro _ | refine And.intro (by omega) ?_ | fail)
  generalize ((w.alloc (.cells #[dv, mv] 24)).alloc (.cells #[.int .i64 y.t, y.dv, y.kv] 49)) = w2 at *
  have l3 := later_alloc w2 (.cells #[.int .i64 0, .slice none 0 0, .int .i64 0, .slice none 0 0] 35)
  have B3 := Blk.new w2 #[.int .i64 0, .slice none 0 0, .int .i64 0, .slice none 0 0] 35
  rw [s2] at B3
  generalize w2.alloc (.cells #[.int .i64 0, .slice none 0 0, .int .i64 0, .slice none 0 0] 35) = w3 at *
  have G := fun w' (hl : Later w3 w') => F w' (l3.trans hl)
  have Gy := fun w' (hl : Later w3 w') => By w' (l3.trans hl)
  have l03 := l2.trans l3
  clear F By eca ecb s1
  obtain ⟨_, _, a2, b0, b1, b2, b3⟩ := G w3 (Later.refl _)
  have hbig : w.heap.size + 2 < w3.heap.size := B3.lt
  repeat' (first | (simp (disch := omega) only [push_cast, ↓reduceIte, zA, zG, zB, zH, zI, zC, zJ, zK, zL, zD, zE, zF, zM, zN, zO, zP, zQ, reduceCtorEq, not_true_eq_false, not_false_eq_true, a2, b3]) | (first | refine vIfE_of ?_ ?_ | refine vIfD_of ?_ ?_ | refine vIfQ_of ?_ ?_ | refine vIfV_of ?_ ?_) <;> intro _ | refine And.intro (by omega) ?_ | refine drawn_q ?_ | fail)
  refine (dcheck_c dv mv d m y w3 (h.later l03) (hy.later l03) hz).mono ?_
  rintro _ w4 ⟨rfl, l4⟩
  have B4 := B3.chg (Chg.of_later (ks := []) l4) (by simp)
  obtain ⟨er, her⟩ : ∃ er, er = evErr d.length m.length y := ⟨_, rfl⟩
  rw [← her]
  by_cases he : er = 0
  case neg =>
    have hj : OfR d.length m.length y z0 er := ⟨her, .inl ⟨he, rfl⟩⟩
    repeat' (first | (simp (disch := omega) only [push_cast, ↓reduceIte, zA, zG, zB, zH, zI, zC, zJ, zK, zL, zD, zE, zF, zM, zN, zO, zP, zQ, reduceCtorEq, not_true_eq_false, not_false_eq_true]) | (first | refine vIfE_of ?_ ?_ | refine vIfD_of ?_ ?_ | refine vIfQ_of ?_ ?_ | refine vIfV_of ?_ ?_) <;> intro _ | refine And.intro (by omega) ?_ | refine drawn_q ?_ | fail)
    refine vStore_blk (l := [.int .i64 0, .slice none 0 0, .int .i64 0, .slice none 0 0]) (xs := elC z0) B4 rfl rfl (elC_one (EO.zero w4 0).is) ?_
    intro w9 B9 c9
    repeat' (first | (simp (disch := omega) only [push_cast, ↓reduceIte, zA, zG, zB, zH, zI, zC, zJ, zK, zL, zD, zE, zF, zM, zN, zO, zP, zQ, reduceCtorEq, not_true_eq_false, not_false_eq_true]) | (first | refine vIfE_of ?_ ?_ | refine vIfD_of ?_ ?_ | refine vIfQ_of ?_ ?_ | refine vIfV_of ?_ ?_) <;> intro _ | refine And.intro (by omega) ?_ | refine drawn_q ?_ | fail)
    refine resK_cells (s := 4) (by simp (disch := omega) only [push_cast, ↓reduceIte, zA, zG, zB, zH, zI, zC, zJ, zK, zL, zD, zE, zF, zM, zN, zO, zP, zQ, reduceCtorEq, not_true_eq_false, not_false_eq_true]) (by rw [Try.underlying35]; exact sz35) (Blk.cellsAt (l := elC z0) B9) ?_
    repeat' (first | (simp (disch := omega) only [push_cast, ↓reduceIte, zA, zG, zB, zH, zI, zC, zJ, zK, zL, zD, zE, zF, zM, zN, zO, zP, zQ, reduceCtorEq, not_true_eq_false, not_false_eq_true]) | (first | refine vIfE_of ?_ ?_ | refine vIfD_of ?_ ?_ | refine vIfQ_of ?_ ?_ | refine vIfV_of ?_ ?_) <;> intro _ | refine And.intro (by omega) ?_ | refine drawn_q ?_ | fail)
    exact ⟨z0, er, rfl, hj, EO.zero _ _, Chg.later (l03.trans l4) c9 (by intro j hj; rw [List.mem_singleton.1 hj]; omega)⟩
  subst he
  have hsizes : y.d.length = d.length ∧ y.k.length = m.length ∧ ∀ n ∈ y.k, Fi n := by
    unfold evErr at her
    split at her
    · cases her
    · rename_i h1
      split at her
      · cases her
      · rename_i h2
        exact ⟨by omega, by omega, Classical.byContradiction fun h => h2 (.inr h)⟩
  obtain ⟨hsd, hsk, hfi⟩ := hsizes
  obtain ⟨_, _, _, b0, b1, b2, b3⟩ := G w4 l4
  have hy4 := hy.later (l03.trans l4)
  repeat' (first | (simp (disch := omega) only [push_cast, ↓reduceIte, zA, zG, zB, zH, zI, zC, zJ, zK, zL, zD, zE, zF, zM, zN, zO, zP, zQ, reduceCtorEq, not_true_eq_false, not_false_eq_true]) | (first | refine vIfE_of ?_ ?_ | refine vIfD_of ?_ ?_ | refine vIfQ_of ?_ ?_ | refine vIfV_of ?_ ?_) <;> intro _ | refine And.intro (by omega) ?_ | fail)
  refine drawn_k 8 ?_
  repeat' (first | (simp (disch := omega) only [push_cast, ↓reduceIte, zA, zG, zB, zH, zI, zC, zJ, zK, zL, zD, zE, zF, zM, zN, zO, zP, zQ, reduceCtorEq, not_true_eq_false, not_false_eq_true, b0, b1, addr_add_eq, Nat.zero_add]) | (first | refine vIfE_of ?_ ?_ | refine vIfD_of ?_ ?_ | refine vIfQ_of ?_ ?_ | refine vIfV_of ?_ ?_) <;> intro _ | refine And.intro (by omega) ?_ | fail)
  have hsz4 : w.heap.size ≤ w4.heap.size := (l03.trans l4).size
  refine nB_of _ (Lit0 w.heap.size) (stb_lit0 _ _) (fun w' hl => ?_) ?_
  · repeat' (first | (simp (disch := omega) only [push_cast, ↓reduceIte, zA, zG, zB, zH, zI, zC, zJ, zK, zL, zD, zE, zF, zM, zN, zO, zP, zQ, reduceCtorEq, not_true_eq_false, not_false_eq_true]) | (first | refine vIfE_of ?_ ?_ | refine vIfD_of ?_ ?_ | refine vIfQ_of ?_ ?_ | refine vIfV_of ?_ ?_) <;> intro _ | refine And.intro (by omega) ?_ | fail)
    exact ⟨later_alloc _ _, ⟨_, rfl⟩, own_lit w' [] _ 1 0 rfl (by unfold maxLen; omega) (Nat.le_trans hsz4 hl.size)⟩
  repeat' (first | (simp (disch := omega) only [push_cast, ↓reduceIte, zA, zG, zB, zH, zI, zC, zJ, zK, zL, zD, zE, zF, zM, zN, zO, zP, zQ, reduceCtorEq, not_true_eq_false, not_false_eq_true, b0, b1, addr_add_eq, Nat.zero_add]) | (first | refine vIfE_of ?_ ?_ | refine vIfD_of ?_ ?_ | refine vIfQ_of ?_ ?_ | refine vIfV_of ?_ ?_) <;> intro _ | refine And.intro (by omega) ?_ | fail)
  refine nR_app (fun v w' => OwnS w' w.heap.size v y.d) (stb_ownS _ _ _) (fun σ' w' hl hp => ?_) ?_
  · obtain ⟨hp26, hp28, _⟩ := hp
    obtain ⟨⟨lb, h26⟩, h26o⟩ : Lit0 w.heap.size (σ' 20) w' := hp26
    have h28 : σ' 22 = y.dv := hp28
    have hsn := (hy4.later hl).dS.n
    rw [h26] at h26o
    repeat' (first | (simp (disch := omega) only [push_cast, ↓reduceIte, zA, zG, zB, zH, zI, zC, zJ, zK, zL, zD, zE, zF, zM, zN, zO, zP, zQ, reduceCtorEq, not_true_eq_false, not_false_eq_true, h28, h26]) | (first | refine vIfE_of ?_ ?_ | refine vIfD_of ?_ ?_ | refine vIfQ_of ?_ ?_ | refine vIfV_of ?_ ?_) <;> intro _ | refine And.intro (by omega) ?_ | fail)
    refine vAppend_fresh Try.underlying22 ti9 rfl (by decide) hsn (by unfold maxLen; omega) (by omega) ?_
    intro v' w'' h0 h1
    rcases Nat.eq_zero_or_pos y.d.length with hz | hz
    · obtain ⟨rfl, rfl⟩ := h0 hz
      have : y.d = [] := List.length_eq_zero_iff.1 hz
      rw [this]
      exact ⟨Later.refl _, h26o⟩
    · obtain ⟨ho, hll⟩ := h1 hz
      exact ⟨hll, own_base ho (Nat.le_trans hsz4 hl.size)⟩
  repeat' (first | (simp (disch := omega) only [push_cast, ↓reduceIte, zA, zG, zB, zH, zI, zC, zJ, zK, zL, zD, zE, zF, zM, zN, zO, zP, zQ, reduceCtorEq, not_true_eq_false, not_false_eq_true, b0, b1, addr_add_eq, Nat.zero_add]) | (first | refine vIfE_of ?_ ?_ | refine vIfD_of ?_ ?_ | refine vIfQ_of ?_ ?_ | refine vIfV_of ?_ ?_) <;> intro _ | refine And.intro (by omega) ?_ | fail)
  refine nR_bld (RowB w.heap.size y.t 1 y.d) (stb_rowB _ _ _ _ _) (fun σ' w' hl hp => ?_) ?_
  · obtain ⟨hp35, hp38, _⟩ := hp
    have h35 : σ' 19 = .int .i64 y.t := hp35
    have h38 : OwnS w' w.heap.size (σ' 23) y.d := hp38
    obtain ⟨o3, c3, hv, _⟩ := Sl.openM (Sl.of_own h38 : Sl w' (σ' 23) (y.d.map Value.string))
    rw [hv] at h38
    repeat' (first | (simp (disch := omega) only [push_cast, ↓reduceIte, zA, zG, zB, zH, zI, zC, zJ, zK, zL, zD, zE, zF, zM, zN, zO, zP, zQ, reduceCtorEq, not_true_eq_false, not_false_eq_true, h35, hv]) | (first | refine vIfE_of ?_ ?_ | refine vIfD_of ?_ ?_ | refine vIfQ_of ?_ ?_ | refine vIfV_of ?_ ?_) <;> intro _ | refine And.intro (by omega) ?_ | fail)
    exact ⟨Later.refl _, _, rfl, h38⟩
  repeat' (first | (simp (disch := omega) only [push_cast, ↓reduceIte, zA, zG, zB, zH, zI, zC, zJ, zK, zL, zD, zE, zF, zM, zN, zO, zP, zQ, reduceCtorEq, not_true_eq_false, not_false_eq_true]) | (first | refine vIfE_of ?_ ?_ | refine vIfD_of ?_ ?_ | refine vIfQ_of ?_ ?_ | refine vIfV_of ?_ ?_) <;> intro _ | refine And.intro (by omega) ?_ | fail)
  refine nA_of _ (PtV w4 35 #[.int .i64 0, .slice none 0 0, .int .i64 0, .slice none 0 0]) (stb_pt _ _ _ _) (fun w' hl => ?_) ?_
  · repeat' (first | (simp (disch := omega) only [push_cast, ↓reduceIte, zA, zG, zB, zH, zI, zC, zJ, zK, zL, zD, zE, zF, zM, zN, zO, zP, zQ, reduceCtorEq, not_true_eq_false, not_false_eq_true]) | (first | refine vIfE_of ?_ ?_ | refine vIfD_of ?_ ?_ | refine vIfQ_of ?_ ?_ | refine vIfV_of ?_ ?_) <;> intro _ | refine And.intro (by omega) ?_ | fail)
    exact ⟨later_alloc _ _, w'.heap.size, rfl, hl.size, Blk.new _ _ _⟩
  repeat' (first | (simp (disch := omega) only [push_cast, ↓reduceIte, zA, zG, zB, zH, zI, zC, zJ, zK, zL, zD, zE, zF, zM, zN, zO, zP, zQ, reduceCtorEq, not_true_eq_false, not_false_eq_true]) | (first | refine vIfE_of ?_ ?_ | refine vIfD_of ?_ ?_ | refine vIfQ_of ?_ ?_ | refine vIfV_of ?_ ?_) <;> intro _ | refine And.intro (by omega) ?_ | fail)
  rintro w5 l5 _ ⟨b, rfl, hb4, Bb⟩ _ ⟨u, rfl, hu⟩ _ _ _ _
  obtain ⟨ou, cu, rfl, _⟩ := Sl.openM (Sl.of_own hu : Sl w5 u (y.d.map Value.string))
  have hE0 : EO w5 w.heap.size ⟨y.t, y.d, 1, [], .slice ou y.d.length cu, .slice none 0 0⟩ := ⟨hu, OwnR.nil _ _ _⟩
  generalize hU : Value.slice ou y.d.length cu = U at *
  refine vStore_blk (l := [.int .i64 0, .slice none 0 0, .int .i64 0, .slice none 0 0]) (xs := elC ⟨y.t, y.d, 1, [], U, .slice none 0 0⟩) Bb rfl rfl (elC_one hE0.is) ?_
  intro w6 Bb6 c6
  have l35 := l4.trans l5
  have hb2 : w.heap.size + 2 < b := Nat.lt_of_lt_of_le hbig (Nat.le_trans l4.size hb4)
  have B35 := B3.chg (Chg.of_later (ks := []) l35) (by simp)
  have by5 := Gy w5 l35
  have J0 : OS w w6 b y U 0 := ⟨by omega, Chg.later (l03.trans l35) c6 (by intro j hj; rw [List.mem_singleton.1 hj]; omega), by5.chg c6 (by simp; omega), B35.chg c6 (by simp; omega), .slice none 0 0, Bb6, hE0.chg Bb c6⟩
  obtain ⟨ok, ck, hky, gk1, gk2, hyk, _⟩ := Sl.openM hy.kS
  clear hE0 Bb6 c6 Bb B35 by5 G Gy hy4 a2 b0 b1 b2 b3 B3 B4 l2 l3 l03 l4 l5 l35 hu s2
  have f3 : w6.cell? ⟨w.heap.size + 1, 2, none⟩ = some (.slice ok y.k.length ck) := by have := J0.by_.cell 2; rw [← hky]; exact this
  repeat' (first | (simp (disch := omega) only [push_cast, ↓reduceIte, zA, zG, zB, zH, zI, zC, zJ, zK, zL, zD, zE, zF, zM, zN, zO, zP, zQ, reduceCtorEq, not_true_eq_false, not_false_eq_true, f3, addr_add_eq, Nat.zero_add]) | (first | refine vIfE_of ?_ ?_ | refine vIfD_of ?_ ?_ | refine vIfQ_of ?_ ?_ | refine vIfV_of ?_ ?_) <;> intro _ | refine And.intro (by omega) ?_ | refine drawn_q ?_ | fail)
  clear f3
  refine vc_loop W26_0 (fun i : Nat => [(8, .int .i64 (i : Int))]) (fun i w' => OS w w' b y U i) (fun i => y.k.length - i) 0 (by decide) ?_ ?_ ?_
  · simp (disch := omega) only [push_cast, ↓reduceIte, zA, zG, zB, zH, zI, zC, zJ, zK, zL, zD, zE, zF, zM, zN, zO, zP, zQ, reduceCtorEq, not_true_eq_false, not_false_eq_true]
  · exact J0
  clear J0
  rintro i uu w7 J
  have hle := J.le
  by_cases hlt : i < y.k.length
  · obtain ⟨aa, rfl⟩ := hyk.some hlt
    have f1 := (hyk.later J.later).atI hlt
    have f3 : w7.cell? ⟨w.heap.size + 1, 2, none⟩ = some (.slice (some aa) y.k.length ck) := by have := J.by_.cell 2; rw [← hky]; exact this
    have hFn := hfi _ (List.getElem_mem hlt)
    have htk : (y.k.take (i + 1)).map one3 = (y.k.take i).map one3 ++ [one3 y.k[i]] := by rw [take_snoc y.k i hlt, List.map_append]; rfl
    generalize y.k[i] = n at *
    repeat' (first | (simp (disch := omega) only [push_cast, ↓reduceIte, zA, zG, zB, zH, zI, zC, zJ, zK, zL, zD, zE, zF, zM, zN, zO, zP, zQ, reduceCtorEq, not_true_eq_false, not_false_eq_true, f1, f3, addr_add_eq, Nat.zero_add]) | (first | refine vIfE_of ?_ ?_ | refine vIfD_of ?_ ?_ | refine vIfQ_of ?_ ?_ | refine vIfV_of ?_ ?_) <;> intro _ | refine And.intro (by omega) ?_ | refine drawn_q ?_ | fail)
    refine (caone_c n w7 hFn).mono ?_
    rintro _ w8 ⟨rfl, l8⟩
    have J8 := J.step l8
    repeat' (first | (simp (disch := omega) only [push_cast, ↓reduceIte, zA, zG, zB, zH, zI, zC, zJ, zK, zL, zD, zE, zF, zM, zN, zO, zP, zQ, reduceCtorEq, not_true_eq_false, not_false_eq_true]) | (first | refine vIfE_of ?_ ?_ | refine vIfD_of ?_ ?_ | refine vIfQ_of ?_ ?_ | refine vIfV_of ?_ ?_) <;> intro _ | refine And.intro (by omega) ?_ | refine drawn_q ?_ | fail)
    refine vStore_new rfl rfl (by intro u hu; exact agC_one (n, n, n) u (by simpa [agC] using hu)) ?_
    have l9 := later_alloc w8 (.cells #[.int .i64 n, .int .i64 n, .int .i64 n] 64)
    have B9 := Blk.new w8 #[.int .i64 n, .int .i64 n, .int .i64 n] 64
    generalize w8.alloc (.cells #[.int .i64 n, .int .i64 n, .int .i64 n] 64) = w10 at *
    generalize w8.heap.size = b9 at *
    have J10 := J8.step l9
    have f10' : cellsAt w10 ⟨b9, 0, none⟩ 3 = some [.int .i64 n, .int .i64 n, .int .i64 n] := Blk.cellsAt (l := agC (n, n, n)) B9
    clear B9 l9 J8 l8 J
    obtain ⟨_, hla, hby, hbz, av', Bc', hE'⟩ := J10
    obtain ⟨oa, ca, hav, _⟩ := RecS.slice (OwnR.s hE'.2)
    have hav : av' = .slice oa ((y.k.take i).map one3).length ca := hav
    subst hav
    have hll : ((y.k.take i).map one3).length = i := by simp; omega
    generalize (y.k.take i).map one3 = lst' at *
    have f11 : w10.cell? ⟨b, 3, none⟩ = some (.slice oa lst'.length ca) := Bc'.cell 3
    repeat' (first | (simp (disch := omega) only [push_cast, ↓reduceIte, zA, zG, zB, zH, zI, zC, zJ, zK, zL, zD, zE, zF, zM, zN, zO, zP, zQ, reduceCtorEq, not_true_eq_false, not_false_eq_true, f10', f11, addr_add_eq, Nat.zero_add]) | (first | refine vIfE_of ?_ ?_ | refine vIfD_of ?_ ?_ | refine vIfQ_of ?_ ?_ | refine vIfV_of ?_ ?_) <;> intro _ | refine And.intro (by omega) ?_ | refine drawn_q ?_ | fail)
    have la := later_alloc w10 (.cells #[.int .i64 n, .int .i64 n, .int .i64 n] 64)
    have Bl := Blk.new w10 #[.int .i64 n, .int .i64 n, .int .i64 n] 64
    have hEa := hE'.later la
    have hOA : OwnA (w10.alloc (.cells #[.int .i64 n, .int .i64 n, .int .i64 n] 64)) w.heap.size (.slice oa lst'.length ca) lst' := hEa.2
    refine vAppend_rs agC_len agC_one Try.underlying33 ti64 rfl (by decide) hOA (RecS.lit1 (y := one3 n) (agC_len _) Bl) (by simp only [List.length_cons, List.length_nil]; omega) (by omega) (Nat.le_trans hla.size la.size) ?_
    intro v' w12 ho hg _
    have cl := Chg.of_later (ks := []) la
    have q2 : Blk w12 _ _ 49 := grown_obj hOA hg (hby.chg cl (by simp)) (fun cs h => by simp at h)
    have q3 : Blk w12 _ _ 35 := grown_obj hOA hg (hbz.chg cl (by simp)) (fun cs h => by simp at h)
    have q4 : Blk w12 b _ 35 := grown_obj hOA hg (Bc'.chg cl (by simp)) (fun cs h => by simp at h)
    have q5 := (hla.trans la).appended hOA (Nat.le_refl _) hg
    have q6 : OwnS w12 w.heap.size U y.d := ownS_grown hEa.1 hOA hg
    obtain ⟨o2, c2, hv2, _⟩ := RecS.slice (OwnR.s ho)
    subst hv2
    have hfz := q4.frozen 3
    have hce : ∃ y, w12.cell? ⟨b, 3, none⟩ = some y := ⟨_, q4.cell 3⟩
    have gc := chg_setCell (i := 3) w12 (ks := [b]) (k := b) (by simp) (.slice o2 (lst' ++ [one3 n]).length c2)
    have z5 := q4.set 3 (.slice o2 (lst' ++ [one3 n]).length c2)
    repeat' (first | (simp (disch := omega) only [push_cast, ↓reduceIte, zA, zG, zB, zH, zI, zC, zJ, zK, zL, zD, zE, zF, zM, zN, zO, zP, zQ, reduceCtorEq, not_true_eq_false, not_false_eq_true, hfz, hce, addr_add_eq, Nat.zero_add]) | (first | refine vIfE_of ?_ ?_ | refine vIfD_of ?_ ?_ | refine vIfQ_of ?_ ?_ | refine vIfV_of ?_ ?_) <;> intro _ | refine And.intro (by omega) ?_ | refine drawn_q ?_ | fail)
    have hJ : OS w (w12.setCell ⟨b, 3, none⟩ (.slice o2 (lst' ++ [one3 n]).length c2)) b y U (i + 1) := by
      refine ⟨by omega, gc.later q5 (by intro j hj; rw [List.mem_singleton.1 hj]; omega), q2.chg gc (by simp; omega), q3.chg gc (by simp; omega), .slice o2 (lst' ++ [one3 n]).length c2, ?_, ?_⟩
      · rw [htk]; exact z5
      · rw [htk]; exact ⟨own_chg_ty q6 q4 (by decide) gc, own_chg_ty ho q4 (by decide) gc⟩
    exact ⟨rfl, i + 1, by simp (disch := omega) only [push_cast, ↓reduceIte, zA, zG, zB, zH, zI, zC, zJ, zK, zL, zD, zE, zF, zM, zN, zO, zP, zQ, reduceCtorEq, not_true_eq_false, not_false_eq_true], hJ, by dsimp only; omega⟩
  · have hi : i = y.k.length := by omega
    subst hi
    obtain ⟨av, Bc, hE⟩ := J.cur
    rw [List.take_length] at Bc hE
    have hj : OfR d.length m.length y ⟨y.t, y.d, 1, y.k.map one3, U, av⟩ 0 := ⟨her, .inr ⟨rfl, rfl⟩⟩
    have f4 : cellsAt w7 ⟨b, 0, none⟩ 4 = some (elC ⟨y.t, y.d, 1, y.k.map one3, U, av⟩) := Blk.cellsAt (l := elC ⟨y.t, y.d, 1, y.k.map one3, U, av⟩) Bc
    have f3 : w7.cell? ⟨w.heap.size + 1, 2, none⟩ = some (.slice ok y.k.length ck) := by have := J.by_.cell 2; rw [← hky]; exact this
    repeat' (first | (simp (disch := omega) only [push_cast, ↓reduceIte, zA, zG, zB, zH, zI, zC, zJ, zK, zL, zD, zE, zF, zM, zN, zO, zP, zQ, reduceCtorEq, not_true_eq_false, not_false_eq_true, f3, f4, addr_add_eq, Nat.zero_add]) | (first | refine vIfE_of ?_ ?_ | refine vIfD_of ?_ ?_ | refine vIfQ_of ?_ ?_ | refine vIfV_of ?_ ?_) <;> intro _ | refine And.intro (by omega) ?_ | refine drawn_q ?_ | fail)
    refine vStore_blk (l := [.int .i64 0, .slice none 0 0, .int .i64 0, .slice none 0 0]) (xs := elC ⟨y.t, y.d, 1, y.k.map one3, U, av⟩) J.bz rfl rfl (elC_one hE.is) ?_
    intro w11 B11 c11
    repeat' (first | (simp (disch := omega) only [push_cast, ↓reduceIte, zA, zG, zB, zH, zI, zC, zJ, zK, zL, zD, zE, zF, zM, zN, zO, zP, zQ, reduceCtorEq, not_true_eq_false, not_false_eq_true]) | (first | refine vIfE_of ?_ ?_ | refine vIfD_of ?_ ?_ | refine vIfQ_of ?_ ?_ | refine vIfV_of ?_ ?_) <;> intro _ | refine And.intro (by omega) ?_ | refine drawn_q ?_ | fail)
    refine resK_cells (s := 4) (by simp (disch := omega) only [push_cast, ↓reduceIte, zA, zG, zB, zH, zI, zC, zJ, zK, zL, zD, zE, zF, zM, zN, zO, zP, zQ, reduceCtorEq, not_true_eq_false, not_false_eq_true]) (by rw [Try.underlying35]; exact sz35) (Blk.cellsAt (l := elC ⟨y.t, y.d, 1, y.k.map one3, U, av⟩) B11) ?_
    repeat' (first | (simp (disch := omega) only [push_cast, ↓reduceIte, zA, zG, zB, zH, zI, zC, zJ, zK, zL, zD, zE, zF, zM, zN, zO, zP, zQ, reduceCtorEq, not_true_eq_false, not_false_eq_true]) | (first | refine vIfE_of ?_ ?_ | refine vIfD_of ?_ ?_ | refine vIfQ_of ?_ ?_ | refine vIfV_of ?_ ?_) <;> intro _ | refine And.intro (by omega) ?_ | refine drawn_q ?_ | fail)
    exact ⟨⟨y.t, y.d, 1, y.k.map one3, U, av⟩, 0, rfl, hj, hE.chg J.bz c11, Chg.later J.later c11 (by intro j hj; rw [List.mem_singleton.1 hj]; omega)⟩
end Go.Proofs.Ythihbgpaoldbjaa
end
section
set_option linter.unusedSimpArgs false
namespace Go.Proofs.Ythihbgpaoldbjaa
open Go.Vc Go.Key Go.Stab
set_option maxRecDepth 100000
theorem sw_near (A B : List El) (p e : El) : sw (A ++ p :: (e :: B)) (A.length + 1) A.length = A ++ e :: (p :: B) := by
  rw [sw_comm _ _ _ (by simp) (by simp)]
  have := sw_app A [] B p e
  simpa using this
set_option maxHeartbeats 1000000 in
theorem insertion_c (B B' g c : Nat) (L X M Y : List El) (w : World) (h : Sw w B B' g c L (X ++ M ++ Y)) :
    FnC Try.prog 109 #[.slice (some ⟨g, 0, none⟩) (X ++ M ++ Y).length c, .int .i64 X.length, .int .i64 ((X.length + M.length : Nat) : Int), cmpV] w fun r w' => ∃ M', Srt elt M' ∧ Stb elt M M' ∧ Sw w' B B' g c L (X ++ M' ++ Y) ∧ Chg w w' [g] := by
  have hs := elt_swo
  have hbig := h.big
  have hlen : (X ++ M ++ Y).length = X.length + M.length + Y.length := by simp; omega
  rw [hlen] at hbig
  generalize hN : (X ++ M ++ Y).length = N at *
  refine enter109 _ _ _ _ ?_
  unfold B109
  repeat' (first | (simp (disch := omega) only [push_cast, ↓reduceIte, zA, zG, zB, zH, zI, zC, zJ, zK, zL, zD, zE, zF, zM, zN, zO, zP, zQ, reduceCtorEq, not_true_eq_false, not_false_eq_true]) | (first | refine vIfE_of ?_ ?_ | refine vIfD_of ?_ ?_ | refine vIfQ_of ?_ ?_ | refine vIfV_of ?_ ?_) <;> intro _ | refine And.intro (by omega) ?_ | refine drawn_q ?_ | fail)
  refine vc_loop W109_0 (fun i : Nat => [(8, .int .i64 ((X.length : Int) + 1 + (i : Int)))])
    (fun i w' => i ≤ M.length ∧ ∃ S, S.length = (M.take (i + 1)).length ∧ Srt elt S ∧ Stb elt (M.take (i + 1)) S ∧ Sw w' B B' g c L (X ++ S ++ (M.drop (i + 1) ++ Y)) ∧ Chg w w' [g]) (fun i => M.length - i) 0 (by decide) ?_ ?_ ?_
  · simp (disch := omega) only [push_cast, ↓reduceIte, zA, zG, zB, zH, zI, zC, zJ, zK, zL, zD, zE, zF, zM, zN, zO, zP, zQ, reduceCtorEq, not_true_eq_false, not_false_eq_true, Int.add_zero]
  · refine ⟨by omega, M.take 1, rfl, ?_, Stb.refl _, ?_, Chg.refl _ _⟩
    · cases M with
      | nil => exact srt_nil
      | cons a M => simp [Srt]
    · have e : X ++ M.take (0 + 1) ++ (M.drop (0 + 1) ++ Y) = X ++ M ++ Y := by
        rw [List.append_assoc X, ← List.append_assoc (M.take _), List.take_append_drop, ← List.append_assoc]
      rw [e]; exact h
  rintro i uu w1 ⟨hi, S, hS, sS, tS, h1, c1⟩
  have hL1 : (X ++ S ++ (M.drop (i + 1) ++ Y)).length = N := by
    simp only [List.length_append, List.length_drop]
    rw [List.length_take] at hS
    omega
  by_cases hlt : i + 1 < M.length
  · obtain ⟨e, he⟩ : ∃ e, e = M[i + 1] := ⟨_, rfl⟩
    have hdr : M.drop (i + 1) = e :: M.drop (i + 2) := by rw [List.drop_eq_getElem_cons hlt, he]
    have htk : M.take (i + 2) = M.take (i + 1) ++ [e] := by rw [take_snoc M (i + 1) hlt, he]
    have hSl : S.length = i + 1 := by rw [hS, List.length_take]; omega
    rw [hdr] at h1
    generalize hR : M.drop (i + 2) = R at *
    repeat' (first | (simp (disch := omega) only [push_cast, ↓reduceIte, zA, zG, zB, zH, zI, zC, zJ, zK, zL, zD, zE, zF, zM, zN, zO, zP, zQ, reduceCtorEq, not_true_eq_false, not_false_eq_true]) | (first | refine vIfE_of ?_ ?_ | refine vIfD_of ?_ ?_ | refine vIfQ_of ?_ ?_ | refine vIfV_of ?_ ?_) <;> intro _ | refine And.intro (by omega) ?_ | refine drawn_q ?_ | fail)
    refine vc_loop W109_1 (fun k : Nat => [(9, .int .i64 ((X.length : Int) + (k : Int)))])
      (fun k w' => ∃ S1 S2, S = S1 ++ S2 ∧ S1.length = k ∧ (∀ s ∈ S2, elt e s = true) ∧ Sw w' B B' g c L ((X ++ S1) ++ e :: (S2 ++ (R ++ Y))) ∧ Chg w w' [g]) (fun k => k) (i + 1) (by decide) ?_ ?_ ?_
    · have e1 : (X.length : Int) + 1 + (i : Int) = (X.length : Int) + ((i : Int) + 1) := by omega
      simp (disch := omega) only [push_cast, ↓reduceIte, zA, zG, zB, zH, zI, zC, zJ, zK, zL, zD, zE, zF, zM, zN, zO, zP, zQ, reduceCtorEq, not_true_eq_false, not_false_eq_true, e1]
    · exact ⟨S, [], by simp, hSl, by simp, by simpa using h1, c1⟩
    rintro k uu2 w2 ⟨S1, S2, hSS, hk, hS2, h2, c2⟩
    have hL2 : ((X ++ S1) ++ e :: (S2 ++ (R ++ Y))).length = N := by
      rw [← hL1, hSS]
      simp only [List.length_append, List.length_cons, hdr]
      omega
    have hXk : (X ++ S1).length = X.length + k := by rw [List.length_append, hk]
    have hkN : X.length + k < N := by rw [← hL2, ← hXk]; simp
    have fin : ∀ w3, Later w2 w3 → (S1 = [] ∨ ∃ T p, S1 = T ++ [p] ∧ elt e p = false) → ∃ S', S'.length = (M.take (i + 1 + 1)).length ∧ Srt elt S' ∧ Stb elt (M.take (i + 1 + 1)) S' ∧ Sw w3 B B' g c L (X ++ S' ++ (M.drop (i + 1 + 1) ++ Y)) ∧ Chg w w3 [g] := by
      intro w3 l3 hp
      refine ⟨S1 ++ e :: S2, ?_, ins_srt hs (by rw [← hSS]; exact sS) hp hS2, ?_, ?_, c2.trans (Chg.of_later l3)⟩
      · rw [htk, List.length_append, List.length_append, ← hS, hSS]; simp; omega
      · rw [htk]
        have := (tS.append (Stb.refl (lt := elt) [e])).trans (by rw [hSS]; exact ins_stb hs hS2)
        exact this
      · have := h2.later l3
        rw [show M.drop (i + 1 + 1) = R from hR]
        simpa using this
    rcases Nat.eq_zero_or_pos k with hk0 | hk0
    · subst hk0
      have hS1 : S1 = [] := List.length_eq_zero_iff.1 hk
      repeat' (first | (simp (disch := omega) only [push_cast, ↓reduceIte, zA, zG, zB, zH, zI, zC, zJ, zK, zL, zD, zE, zF, zM, zN, zO, zP, zQ, reduceCtorEq, not_true_eq_false, not_false_eq_true]) | (first | refine vIfE_of ?_ ?_ | refine vIfD_of ?_ ?_ | refine vIfQ_of ?_ ?_ | refine vIfV_of ?_ ?_) <;> intro _ | refine And.intro (by omega) ?_ | refine drawn_q ?_ | fail)
      intro w3 l3
      repeat' (first | (simp (disch := omega) only [push_cast, ↓reduceIte, zA, zG, zB, zH, zI, zC, zJ, zK, zL, zD, zE, zF, zM, zN, zO, zP, zQ, reduceCtorEq, not_true_eq_false, not_false_eq_true]) | (first | refine vIfE_of ?_ ?_ | refine vIfD_of ?_ ?_ | refine vIfQ_of ?_ ?_ | refine vIfV_of ?_ ?_) <;> intro _ | refine And.intro (by omega) ?_ | refine drawn_q ?_ | fail)
      have e1 : (X.length : Int) + 1 + (i : Int) + 1 = (X.length : Int) + 1 + ((i : Int) + 1) := by omega
      exact ⟨rfl, i + 1, by simp (disch := omega) only [push_cast, ↓reduceIte, zA, zG, zB, zH, zI, zC, zJ, zK, zL, zD, zE, zF, zM, zN, zO, zP, zQ, reduceCtorEq, not_true_eq_false, not_false_eq_true, e1], ⟨by omega, fin w3 l3 (.inl hS1)⟩, by dsimp only; omega⟩
    · obtain ⟨T, p, rfl⟩ : ∃ T p, S1 = T ++ [p] := ⟨S1.dropLast, S1.getLast (by intro h; rw [h] at hk; simp at hk; omega), (List.dropLast_concat_getLast _).symm⟩
      have hTk : (X ++ T).length + 1 = X.length + k := by rw [← hXk]; simp; omega
      have hcur : (X ++ (T ++ [p])) ++ e :: (S2 ++ (R ++ Y)) = (X ++ T) ++ p :: (e :: (S2 ++ (R ++ Y))) := by simp
      have ge : ((X ++ (T ++ [p])) ++ e :: (S2 ++ (R ++ Y)))[X.length + k]! = e := by rw [← hXk]; exact get_app _ _ _
      have gp : ((X ++ (T ++ [p])) ++ e :: (S2 ++ (R ++ Y)))[X.length + k - 1]! = p := by
        have : X.length + k - 1 = (X ++ T).length := by omega
        rw [this, hcur]; exact get_app _ _ _
      have fe := h2.at (i := X.length + k) (by omega)
      have fp := h2.at (i := X.length + k - 1) (by omega)
      have oe := h2.elAt (i := X.length + k) (by omega)
      have op := h2.elAt (i := X.length + k - 1) (by omega)
      rw [ge] at fe oe
      rw [gp] at fp op
      have t1 : ((X.length : Int) + (k : Int)).toNat = X.length + k := by omega
      have t2 : ((X.length : Int) + (k : Int) - 1).toNat = X.length + k - 1 := by omega
      have hcmp : elt e p = decide (ecmp e p < 0) := rfl
      repeat' (first | (simp (disch := omega) only [push_cast, ↓reduceIte, zA, zG, zB, zH, zI, zC, zJ, zK, zL, zD, zE, zF, zM, zN, zO, zP, zQ, reduceCtorEq, not_true_eq_false, not_false_eq_true, t1, t2, fe, fp]) | (first | refine vIfE_of ?_ ?_ | refine vIfD_of ?_ ?_ | refine vIfQ_of ?_ ?_ | refine vIfV_of ?_ ?_) <;> intro _ | refine And.intro (by omega) ?_ | refine drawn_q ?_ | fail)
      refine QFn.of hb34 (v := .int .i64 (ecmp e p)) (fun w' hl => rcompare_c e p w' (oe.is.later hl) (op.is.later hl)) ?_
      by_cases hlt2 : ecmp e p < 0
      · repeat' (first | (simp (disch := omega) only [push_cast, ↓reduceIte, zA, zG, zB, zH, zI, zC, zJ, zK, zL, zD, zE, zF, zM, zN, zO, zP, zQ, reduceCtorEq, not_true_eq_false, not_false_eq_true]) | (first | refine vIfE_of ?_ ?_ | refine vIfD_of ?_ ?_ | refine vIfQ_of ?_ ?_ | refine vIfV_of ?_ ?_) <;> intro _ | refine And.intro (by omega) ?_ | refine drawn_q ?_ | fail)
        intro w3 l3
        have h3 := h2.later l3
        have fe := h3.at (i := X.length + k) (by omega)
        have fp := h3.at (i := X.length + k - 1) (by omega)
        rw [ge] at fe
        rw [gp] at fp
        repeat' (first | (simp (disch := omega) only [push_cast, ↓reduceIte, zA, zG, zB, zH, zI, zC, zJ, zK, zL, zD, zE, zF, zM, zN, zO, zP, zQ, reduceCtorEq, not_true_eq_false, not_false_eq_true]) | (first | refine vIfE_of ?_ ?_ | refine vIfD_of ?_ ?_ | refine vIfQ_of ?_ ?_ | refine vIfV_of ?_ ?_) <;> intro _ | refine And.intro (by omega) ?_ | fail)
        refine drawnS_k 15 ?_
        repeat' (first | (simp (disch := omega) only [push_cast, ↓reduceIte, zA, zG, zB, zH, zI, zC, zJ, zK, zL, zD, zE, zF, zM, zN, zO, zP, zQ, reduceCtorEq, not_true_eq_false, not_false_eq_true, t1, t2, fe, fp]) | (first | refine vIfE_of ?_ ?_ | refine vIfD_of ?_ ?_ | refine vIfQ_of ?_ ?_ | refine vIfV_of ?_ ?_) <;> intro _ | refine And.intro (by omega) ?_ | fail)
        refine ⟨rfl, fun w4 l4 => ⟨by simp (disch := omega) only [push_cast, ↓reduceIte, zA, zG, zB, zH, zI, zC, zJ, zK, zL, zD, zE, zF, zM, zN, zO, zP, zQ, reduceCtorEq, not_true_eq_false, not_false_eq_true, implies_true, and_self], ?_⟩⟩
        have h4 := h3.later l4
        repeat' (first | (simp (disch := omega) only [push_cast, ↓reduceIte, zA, zG, zB, zH, zI, zC, zJ, zK, zL, zD, zE, zF, zM, zN, zO, zP, zQ, reduceCtorEq, not_true_eq_false, not_false_eq_true, t1, t2]) | (first | refine vIfE_of ?_ ?_ | refine vIfD_of ?_ ?_ | refine vIfQ_of ?_ ?_ | refine vIfV_of ?_ ?_) <;> intro _ | refine And.intro (by omega) ?_ | fail)
        have mp := h4.mem (i := X.length + k - 1) (by omega)
        have me := h4.mem (i := X.length + k) (by omega)
        rw [gp] at mp
        rw [ge] at me
        refine h4.store (i := X.length + k) (by omega) mp fun w5 h5 c5 => ?_
        repeat' (first | (simp (disch := omega) only [push_cast, ↓reduceIte, zA, zG, zB, zH, zI, zC, zJ, zK, zL, zD, zE, zF, zM, zN, zO, zP, zQ, reduceCtorEq, not_true_eq_false, not_false_eq_true, t2]) | (first | refine vIfE_of ?_ ?_ | refine vIfD_of ?_ ?_ | refine vIfQ_of ?_ ?_ | refine vIfV_of ?_ ?_) <;> intro _ | refine And.intro (by omega) ?_ | fail)
        refine h5.store (i := X.length + k - 1) (by simp only [List.length_set]; omega) me fun w6 h6 c6 => ?_
        have e6 : ((((X ++ (T ++ [p])) ++ e :: (S2 ++ (R ++ Y))).set (X.length + k) p).set (X.length + k - 1) e) = (X ++ T) ++ e :: ((p :: S2) ++ (R ++ Y)) := by
          have := sw_near (X ++ T) (S2 ++ (R ++ Y)) p e
          rw [← hcur, hTk] at this
          rw [show X.length + k - 1 = (X ++ T).length by omega]
          unfold sw at this
          rw [ge, show ((X ++ (T ++ [p])) ++ e :: (S2 ++ (R ++ Y)))[(X ++ T).length]! = p by rw [hcur]; exact get_app _ _ _] at this
          simpa using this
        rw [e6] at h6
        have e7 : (X.length : Int) + (k : Int) - 1 = (X.length : Int) + ((k - 1 : Nat) : Int) := by omega
        repeat' (first | (simp (disch := omega) only [push_cast, ↓reduceIte, zA, zG, zB, zH, zI, zC, zJ, zK, zL, zD, zE, zF, zM, zN, zO, zP, zQ, reduceCtorEq, not_true_eq_false, not_false_eq_true, e7]) | (first | refine vIfE_of ?_ ?_ | refine vIfD_of ?_ ?_ | refine vIfQ_of ?_ ?_ | refine vIfV_of ?_ ?_) <;> intro _ | refine And.intro (by omega) ?_ | refine drawn_q ?_ | fail)
        exact ⟨rfl, k - 1, by simp (disch := omega) only [push_cast, ↓reduceIte, zA, zG, zB, zH, zI, zC, zJ, zK, zL, zD, zE, zF, zM, zN, zO, zP, zQ, reduceCtorEq, not_true_eq_false, not_false_eq_true, e7], ⟨T, p :: S2, by rw [hSS]; simp, by simp at hk; omega, by
          intro s hs'
          rcases List.mem_cons.1 hs' with rfl | hs'
          · rw [hcmp]; exact decide_eq_true hlt2
          · exact hS2 s hs', h6, ((c2.trans (Chg.of_later (l3.trans l4))).trans c5).trans c6⟩, by dsimp only; omega⟩
      · repeat' (first | (simp (disch := omega) only [push_cast, ↓reduceIte, zA, zG, zB, zH, zI, zC, zJ, zK, zL, zD, zE, zF, zM, zN, zO, zP, zQ, reduceCtorEq, not_true_eq_false, not_false_eq_true]) | (first | refine vIfE_of ?_ ?_ | refine vIfD_of ?_ ?_ | refine vIfQ_of ?_ ?_ | refine vIfV_of ?_ ?_) <;> intro _ | refine And.intro (by omega) ?_ | refine drawn_q ?_ | fail)
        intro w3 l3
        repeat' (first | (simp (disch := omega) only [push_cast, ↓reduceIte, zA, zG, zB, zH, zI, zC, zJ, zK, zL, zD, zE, zF, zM, zN, zO, zP, zQ, reduceCtorEq, not_true_eq_false, not_false_eq_true]) | (first | refine vIfE_of ?_ ?_ | refine vIfD_of ?_ ?_ | refine vIfQ_of ?_ ?_ | refine vIfV_of ?_ ?_) <;> intro _ | refine And.intro (by omega) ?_ | refine drawn_q ?_ | fail)
        have e1 : (X.length : Int) + 1 + (i : Int) + 1 = (X.length : Int) + 1 + ((i : Int) + 1) := by omega
        exact ⟨rfl, i + 1, by simp (disch := omega) only [push_cast, ↓reduceIte, zA, zG, zB, zH, zI, zC, zJ, zK, zL, zD, zE, zF, zM, zN, zO, zP, zQ, reduceCtorEq, not_true_eq_false, not_false_eq_true, e1], ⟨by omega, fin w3 l3 (.inr ⟨T, p, rfl, by rw [hcmp]; exact decide_eq_false hlt2⟩)⟩, by dsimp only; omega⟩
  · have e1 : M.take (i + 1) = M := List.take_of_length_le (by omega)
    have e2 : M.drop (i + 1) = [] := List.drop_eq_nil_of_le (by omega)
    rw [e1] at tS
    rw [e2] at h1
    have hf : ∃ M', Srt elt M' ∧ Stb elt M M' ∧ Sw w1 B B' g c L (X ++ M' ++ Y) ∧ Chg w w1 [g] := ⟨S, sS, tS, by simpa using h1, c1⟩
    repeat' (first | (simp (disch := omega) only [push_cast, ↓reduceIte, zA, zG, zB, zH, zI, zC, zJ, zK, zL, zD, zE, zF, zM, zN, zO, zP, zQ, reduceCtorEq, not_true_eq_false, not_false_eq_true]) | (first | refine vIfE_of ?_ ?_ | refine vIfD_of ?_ ?_ | refine vIfQ_of ?_ ?_ | refine vIfV_of ?_ ?_) <;> intro _ | refine And.intro (by omega) ?_ | refine drawn_q ?_ | fail)
    exact hf
end Go.Proofs.Ythihbgpaoldbjaa
end
section
set_option linter.unusedSimpArgs false
namespace Go.Stab
variable {α : Type} {lt : α → α → Bool}
theorem pref_lt [Inhabited α] (hs : Swo lt) {V : List α} {e : α} {p : Nat} (sV : Srt lt V) (hp : p ≤ V.length) (k1 : p = 0 ∨ lt V[p - 1]! e = true) : ∀ s ∈ V.take p, lt s e = true := by
  intro s hs'
  obtain ⟨i, hi, rfl⟩ := mem_at hs'
  rw [List.length_take] at hi
  rcases k1 with h | h
  · omega
  have ex : (V.take p)[i]! = V[i]! := by rw [getElem!_pos _ i (by simp; omega), getElem!_pos V i (by omega), List.getElem_take]
  rw [ex]
  exact hs.le_lt (srt_get hs sV (show i ≤ p - 1 by omega) (by omega)) h
theorem head_at [Inhabited α] {V : List α} {p : Nat} (q : α → Prop) (hp : p ≤ V.length) (k2 : p = V.length ∨ q V[p]!) : V.drop p = [] ∨ ∃ x T, V.drop p = x :: T ∧ q x := by
  rcases k2 with h | h
  · exact .inl (List.drop_eq_nil_of_le (by omega))
  · by_cases hl : p < V.length
    · refine .inr ⟨V[p], V.drop (p + 1), List.drop_eq_getElem_cons hl, ?_⟩
      rwa [getElem!_pos V p hl] at h
    · exact .inl (List.drop_eq_nil_of_le (by omega))
theorem last_at [Inhabited α] {U : List α} {p : Nat} (q : α → Prop) (hp : p ≤ U.length) (k1 : p = 0 ∨ q U[p - 1]!) : U.take p = [] ∨ ∃ T x, U.take p = T ++ [x] ∧ q x := by
  rcases k1 with h | h
  · subst h; exact .inl rfl
  · by_cases h0 : p = 0
    · subst h0; exact .inl rfl
    · refine .inr ⟨U.take (p - 1), U[p - 1], ?_, ?_⟩
      · have := Go.Vc.take_snoc U (p - 1) (by omega)
        rw [show p - 1 + 1 = p by omega] at this
        exact this
      · rwa [getElem!_pos U (p - 1) (by omega)] at h
theorem suf_lt [Inhabited α] (hs : Swo lt) {U : List α} {e : α} {p : Nat} (sU : Srt lt U) (k2 : p = U.length ∨ lt e U[p]! = true) : ∀ s ∈ U.drop p, lt e s = true := by
  intro s hs'
  obtain ⟨i, hi, rfl⟩ := mem_at hs'
  rw [List.length_drop] at hi
  rcases k2 with h | h
  · omega
  have ex : (U.drop p)[i]! = U[p + i]! := by rw [getElem!_pos _ i (by simp; omega), getElem!_pos U (p + i) (by omega), List.getElem_drop]
  rw [ex]
  exact hs.lt_le h (srt_get hs sU (show p ≤ p + i by omega) (by omega))
theorem cur_UV [Inhabited α] (X M Y : List α) {i : Nat} (h1 : X.length ≤ i) (h2 : i < X.length + M.length) : (X ++ M ++ Y)[i]! = M[i - X.length]! := by
  rw [getElem!_pos _ i (by simp; omega), getElem!_pos M _ (by omega), List.getElem_append_left (by simp; omega), List.getElem_append_right h1]
end Go.Stab
namespace Go.Proofs.Ythihbgpaoldbjaa
open Go.Vc Go.Key Go.Stab
set_option maxRecDepth 100000
/-- What the merge leaves. -/
def Mg (B B' g c : Nat) (L X M Y : List El) (w w' : World) : Prop := ∃ Z, Srt elt Z ∧ Stb elt M Z ∧ Sw w' B B' g c L (X ++ Z ++ Y) ∧ Chg w w' [g]
/-- One element at the front of sorted ones. -/
theorem mergeA_c (B B' g c : Nat) (L X : List El) (e : El) (V Y : List El) (a m b : Nat) (w : World) (h : Sw w B B' g c L (X ++ ([e] ++ V) ++ Y)) (hX : X.length = a) (hm : m = a + 1) (hV : V.length = b - m) (hmb : m < b) (sV : Srt elt V) :
    FnC Try.prog 110 #[.slice (some ⟨g, 0, none⟩) (X ++ ([e] ++ V) ++ Y).length c, .int .i64 (a : Int), .int .i64 (m : Int), .int .i64 (b : Int), cmpV] w fun r w' => Mg B B' g c L X ([e] ++ V) Y w w' := by
  have hs := elt_swo
  have hbig := h.big
  have hlen : (X ++ ([e] ++ V) ++ Y).length = b + Y.length := by simp; omega
  rw [hlen] at hbig
  have ha : (X ++ ([e] ++ V) ++ Y)[a]! = e := by rw [cur_UV _ _ _ (by omega) (by simp; omega), hX, Nat.sub_self]; rfl
  have gV : ∀ t, t < V.length → (X ++ ([e] ++ V) ++ Y)[m + t]! = V[t]! := fun t ht => by
    rw [cur_UV _ _ _ (by omega) (by simp; omega), hX]
    have : m + t - a = ([e] : List El).length + t := by simp; omega
    rw [this, app_r ht]
  generalize hcur : X ++ ([e] ++ V) ++ Y = cur at *
  generalize hN : cur.length = N at *
  refine enter110 _ _ _ _ _ ?_
  unfold B110
  repeat' (first | (simp (disch := omega) only [push_cast, ↓reduceIte, zA, zG, zB, zH, zI, zC, zJ, zK, zL, zD, zE, zF, zM, zN, zO, zP, zQ, reduceCtorEq, not_true_eq_false, not_false_eq_true]) | (first | refine vIfE_of ?_ ?_ | refine vIfD_of ?_ ?_ | refine vIfQ_of ?_ ?_ | refine vIfV_of ?_ ?_) <;> intro _ | refine And.intro (by omega) ?_ | refine drawn_q ?_ | fail)
  refine vc_loop W110_0 (fun p : Nat × Nat => [(10, .int .i64 (p.1 : Int)), (11, .int .i64 (p.2 : Int))])
    (fun p w' => m ≤ p.1 ∧ p.1 ≤ p.2 ∧ p.2 ≤ b ∧ (p.1 = m ∨ elt cur[p.1 - 1]! cur[a]! = true) ∧ (p.2 = b ∨ elt cur[p.2]! cur[a]! = false) ∧ Later w w') (fun p => p.2 - p.1) (m, b) (by decide) ?_ ?_ ?_
  · simp (disch := omega) only [push_cast, ↓reduceIte, zA, zG, zB, zH, zI, zC, zJ, zK, zL, zD, zE, zF, zM, zN, zO, zP, zQ, reduceCtorEq, not_true_eq_false, not_false_eq_true]
  · exact ⟨by dsimp only; omega, by dsimp only; omega, by dsimp only; omega, .inl rfl, .inl rfl, Later.refl _⟩
  rintro ⟨i, j⟩ uu w1 ⟨q1, q2, q3, q4, q5, l1⟩
  dsimp only at q1 q2 q3 q4 q5
  have h1 := h.later l1
  by_cases hij : i < j
  · obtain ⟨r, hr⟩ : ∃ r : Nat, r = (i + j) / 2 := ⟨_, rfl⟩
    have e1 : ((i : Int) + (j : Int)) / 2 = (r : Int) := by omega
    have e2 : ((i : Int) + (j : Int)) / 2 ^ 1 = (r : Int) := by rw [Int.pow_succ]; simpa using e1
    have t1 : ((r : Int)).toNat = r := by omega
    have t2 : ((a : Int)).toNat = a := by omega
    have fr := h1.at (i := r) (by omega)
    have fa := h1.at (i := a) (by omega)
    have er := h1.elAt (i := r) (by omega)
    have ea := h1.elAt (i := a) (by omega)
    repeat' (first | (simp (disch := omega) only [push_cast, ↓reduceIte, zA, zG, zB, zH, zI, zC, zJ, zK, zL, zD, zE, zF, zM, zN, zO, zP, zQ, reduceCtorEq, not_true_eq_false, not_false_eq_true, e1, e2, t1, t2, fr, fa]) | (first | refine vIfE_of ?_ ?_ | refine vIfD_of ?_ ?_ | refine vIfQ_of ?_ ?_ | refine vIfV_of ?_ ?_) <;> intro _ | refine And.intro (by omega) ?_ | refine drawn_q ?_ | fail)
    refine QFn.of hb34 (v := .int .i64 (ecmp cur[r]! cur[a]!)) (fun w' hl => rcompare_c _ _ w' (er.is.later hl) (ea.is.later hl)) ?_
    have hcmp : elt cur[r]! cur[a]! = decide (ecmp cur[r]! cur[a]! < 0) := rfl
    by_cases hlt : ecmp cur[r]! cur[a]! < 0
    · repeat' (first | (simp (disch := omega) only [push_cast, ↓reduceIte, zA, zG, zB, zH, zI, zC, zJ, zK, zL, zD, zE, zF, zM, zN, zO, zP, zQ, reduceCtorEq, not_true_eq_false, not_false_eq_true]) | (first | refine vIfE_of ?_ ?_ | refine vIfD_of ?_ ?_ | refine vIfQ_of ?_ ?_ | refine vIfV_of ?_ ?_) <;> intro _ | refine And.intro (by omega) ?_ | refine drawn_q ?_ | fail)
      intro w2 l2
      repeat' (first | (simp (disch := omega) only [push_cast, ↓reduceIte, zA, zG, zB, zH, zI, zC, zJ, zK, zL, zD, zE, zF, zM, zN, zO, zP, zQ, reduceCtorEq, not_true_eq_false, not_false_eq_true]) | (first | refine vIfE_of ?_ ?_ | refine vIfD_of ?_ ?_ | refine vIfQ_of ?_ ?_ | refine vIfV_of ?_ ?_) <;> intro _ | refine And.intro (by omega) ?_ | refine drawn_q ?_ | fail)
      exact ⟨rfl, (r + 1, j), by simp (disch := omega) only [push_cast, ↓reduceIte, zA, zG, zB, zH, zI, zC, zJ, zK, zL, zD, zE, zF, zM, zN, zO, zP, zQ, reduceCtorEq, not_true_eq_false, not_false_eq_true], ⟨by dsimp only; omega, by dsimp only; omega, q3, .inr (by rw [show r + 1 - 1 = r by omega, hcmp]; exact decide_eq_true hlt), q5, l1.trans l2⟩, by dsimp only; omega⟩
    · repeat' (first | (simp (disch := omega) only [push_cast, ↓reduceIte, zA, zG, zB, zH, zI, zC, zJ, zK, zL, zD, zE, zF, zM, zN, zO, zP, zQ, reduceCtorEq, not_true_eq_false, not_false_eq_true]) | (first | refine vIfE_of ?_ ?_ | refine vIfD_of ?_ ?_ | refine vIfQ_of ?_ ?_ | refine vIfV_of ?_ ?_) <;> intro _ | refine And.intro (by omega) ?_ | refine drawn_q ?_ | fail)
      intro w2 l2
      repeat' (first | (simp (disch := omega) only [push_cast, ↓reduceIte, zA, zG, zB, zH, zI, zC, zJ, zK, zL, zD, zE, zF, zM, zN, zO, zP, zQ, reduceCtorEq, not_true_eq_false, not_false_eq_true]) | (first | refine vIfE_of ?_ ?_ | refine vIfD_of ?_ ?_ | refine vIfQ_of ?_ ?_ | refine vIfV_of ?_ ?_) <;> intro _ | refine And.intro (by omega) ?_ | refine drawn_q ?_ | fail)
      exact ⟨rfl, (i, r), by simp (disch := omega) only [push_cast, ↓reduceIte, zA, zG, zB, zH, zI, zC, zJ, zK, zL, zD, zE, zF, zM, zN, zO, zP, zQ, reduceCtorEq, not_true_eq_false, not_false_eq_true], ⟨q1, by dsimp only; omega, by dsimp only; omega, q4, .inr (by rw [hcmp]; exact decide_eq_false hlt), l1.trans l2⟩, by dsimp only; omega⟩
  · have hji : j = i := by omega
    subst hji
    obtain ⟨p, hp⟩ : ∃ p, p = j - m := ⟨_, rfl⟩
    have k1 : p = 0 ∨ elt V[p - 1]! e = true := by
      rcases q4 with h | h
      · left; omega
      · by_cases h0 : p = 0
        · exact .inl h0
        · right
          rw [← gV (p - 1) (by omega), ← ha]
          rwa [show m + (p - 1) = j - 1 by omega]
    have k2 : p = V.length ∨ elt V[p]! e = false := by
      rcases q5 with h | h
      · left; omega
      · by_cases h0 : p < V.length
        · right
          rw [← gV p h0, ← ha]
          rwa [show m + p = j by omega]
        · left; omega
    have hV1 := pref_lt hs sV (by omega) k1
    have hV2 := head_at (fun x => elt x e = false) (by omega) k2
    have hVV : V = V.take p ++ V.drop p := (List.take_append_drop _ _).symm
    have hp1 : (V.take p).length = p := by rw [List.length_take]; omega
    generalize V.take p = V1 at *
    generalize V.drop p = V2 at *
    repeat' (first | (simp (disch := omega) only [push_cast, ↓reduceIte, zA, zG, zB, zH, zI, zC, zJ, zK, zL, zD, zE, zF, zM, zN, zO, zP, zQ, reduceCtorEq, not_true_eq_false, not_false_eq_true]) | (first | refine vIfE_of ?_ ?_ | refine vIfD_of ?_ ?_ | refine vIfQ_of ?_ ?_ | refine vIfV_of ?_ ?_) <;> intro _ | refine And.intro (by omega) ?_ | refine drawn_q ?_ | fail)
    refine vc_loop W110_1 (fun s : Nat => [(13, .int .i64 ((a : Int) + (s : Int)))])
      (fun s w' => s ≤ p ∧ ∃ T1 T2, V1 = T1 ++ T2 ∧ T1.length = s ∧ Sw w' B B' g c L ((X ++ T1) ++ e :: (T2 ++ (V2 ++ Y))) ∧ Chg w w' [g]) (fun s => p - s) 0 (by decide) ?_ ?_ ?_
    · simp (disch := omega) only [push_cast, ↓reduceIte, zA, zG, zB, zH, zI, zC, zJ, zK, zL, zD, zE, zF, zM, zN, zO, zP, zQ, reduceCtorEq, not_true_eq_false, not_false_eq_true, Int.add_zero]
    · refine ⟨by omega, [], V1, rfl, rfl, ?_, Chg.of_later l1⟩
      rw [← hcur, hVV] at h1
      simpa using h1
    rintro s uu2 w2 ⟨hsp, T1, T2, hTT, hT1, h2, c2⟩
    have hXT : (X ++ T1).length = a + s := by rw [List.length_append]; omega
    have hN2 : ((X ++ T1) ++ e :: (T2 ++ (V2 ++ Y))).length = N := by
      rw [← hN, ← hcur, hVV, hTT]
      simp only [List.length_append, List.length_cons, List.length_nil]
      omega
    have hTl := congrArg List.length hTT
    rw [List.length_append] at hTl
    by_cases hlt : s < p
    · obtain ⟨x, T, rfl⟩ : ∃ x T, T2 = x :: T := by
        cases T2 with
        | nil => simp at hTl; omega
        | cons x T => exact ⟨x, T, rfl⟩
      have ge : ((X ++ T1) ++ e :: (x :: T ++ (V2 ++ Y)))[a + s]! = e := by rw [← hXT]; exact get_app _ _ _
      have hcur2 : (X ++ T1) ++ e :: (x :: T ++ (V2 ++ Y)) = ((X ++ T1) ++ [e]) ++ x :: (T ++ (V2 ++ Y)) := by simp
      have gx : ((X ++ T1) ++ e :: (x :: T ++ (V2 ++ Y)))[a + s + 1]! = x := by
        rw [hcur2, show a + s + 1 = ((X ++ T1) ++ [e]).length by rw [List.length_append, hXT]; rfl]; exact get_app _ _ _
      have hN2' : a + s + 1 < ((X ++ T1) ++ e :: (x :: T ++ (V2 ++ Y))).length := by
        rw [hcur2]; simp only [List.length_append, List.length_cons]; omega
      have t1 : ((a : Int) + (s : Int)).toNat = a + s := by omega
      have t2 : ((a : Int) + (s : Int) + 1).toNat = a + s + 1 := by omega
      have fe := h2.at (i := a + s) (by omega)
      have fx := h2.at (i := a + s + 1) (by omega)
      rw [ge] at fe
      rw [gx] at fx
      repeat' (first | (simp (disch := omega) only [push_cast, ↓reduceIte, zA, zG, zB, zH, zI, zC, zJ, zK, zL, zD, zE, zF, zM, zN, zO, zP, zQ, reduceCtorEq, not_true_eq_false, not_false_eq_true]) | (first | refine vIfE_of ?_ ?_ | refine vIfD_of ?_ ?_ | refine vIfQ_of ?_ ?_ | refine vIfV_of ?_ ?_) <;> intro _ | refine And.intro (by omega) ?_ | fail)
      refine drawnS_k 15 ?_
      repeat' (first | (simp (disch := omega) only [push_cast, ↓reduceIte, zA, zG, zB, zH, zI, zC, zJ, zK, zL, zD, zE, zF, zM, zN, zO, zP, zQ, reduceCtorEq, not_true_eq_false, not_false_eq_true, t1, t2, fe, fx]) | (first | refine vIfE_of ?_ ?_ | refine vIfD_of ?_ ?_ | refine vIfQ_of ?_ ?_ | refine vIfV_of ?_ ?_) <;> intro _ | refine And.intro (by omega) ?_ | fail)
      refine ⟨rfl, fun w3 l3 => ⟨by simp (disch := omega) only [push_cast, ↓reduceIte, zA, zG, zB, zH, zI, zC, zJ, zK, zL, zD, zE, zF, zM, zN, zO, zP, zQ, reduceCtorEq, not_true_eq_false, not_false_eq_true, implies_true, and_self], ?_⟩⟩
      have h3 := h2.later l3
      repeat' (first | (simp (disch := omega) only [push_cast, ↓reduceIte, zA, zG, zB, zH, zI, zC, zJ, zK, zL, zD, zE, zF, zM, zN, zO, zP, zQ, reduceCtorEq, not_true_eq_false, not_false_eq_true, t1, t2]) | (first | refine vIfE_of ?_ ?_ | refine vIfD_of ?_ ?_ | refine vIfQ_of ?_ ?_ | refine vIfV_of ?_ ?_) <;> intro _ | refine And.intro (by omega) ?_ | fail)
      have mx := h3.mem (i := a + s + 1) (by omega)
      have me := h3.mem (i := a + s) (by omega)
      rw [gx] at mx
      rw [ge] at me
      refine h3.store (i := a + s) (by omega) mx fun w4 h4 c4 => ?_
      repeat' (first | (simp (disch := omega) only [push_cast, ↓reduceIte, zA, zG, zB, zH, zI, zC, zJ, zK, zL, zD, zE, zF, zM, zN, zO, zP, zQ, reduceCtorEq, not_true_eq_false, not_false_eq_true, t2]) | (first | refine vIfE_of ?_ ?_ | refine vIfD_of ?_ ?_ | refine vIfQ_of ?_ ?_ | refine vIfV_of ?_ ?_) <;> intro _ | refine And.intro (by omega) ?_ | fail)
      refine h4.store (i := a + s + 1) (by simp only [List.length_set]; omega) me fun w5 h5 c5 => ?_
      have e6 : ((((X ++ T1) ++ e :: (x :: T ++ (V2 ++ Y))).set (a + s) x).set (a + s + 1) e) = (X ++ (T1 ++ [x])) ++ e :: (T ++ (V2 ++ Y)) := by
        have := sw_app (X ++ T1) [] (T ++ (V2 ++ Y)) e x
        unfold sw at this
        rw [show (X ++ T1).length + 1 + ([] : List El).length = a + s + 1 by rw [hXT]; rfl, hXT] at this
        have hcc : (X ++ T1) ++ e :: ([] ++ x :: (T ++ (V2 ++ Y))) = (X ++ T1) ++ e :: (x :: T ++ (V2 ++ Y)) := by simp
        rw [hcc, ge, gx] at this
        rw [this]
        simp
      rw [e6] at h5
      have e7 : (a : Int) + (s : Int) + 1 = (a : Int) + ((s : Int) + 1) := by omega
      repeat' (first | (simp (disch := omega) only [push_cast, ↓reduceIte, zA, zG, zB, zH, zI, zC, zJ, zK, zL, zD, zE, zF, zM, zN, zO, zP, zQ, reduceCtorEq, not_true_eq_false, not_false_eq_true, e7]) | (first | refine vIfE_of ?_ ?_ | refine vIfD_of ?_ ?_ | refine vIfQ_of ?_ ?_ | refine vIfV_of ?_ ?_) <;> intro _ | refine And.intro (by omega) ?_ | refine drawn_q ?_ | fail)
      exact ⟨rfl, s + 1, by simp (disch := omega) only [push_cast, ↓reduceIte, zA, zG, zB, zH, zI, zC, zJ, zK, zL, zD, zE, zF, zM, zN, zO, zP, zQ, reduceCtorEq, not_true_eq_false, not_false_eq_true, e7], ⟨by omega, T1 ++ [x], T, by rw [hTT]; simp, by simp [hT1], h5, ((c2.trans (Chg.of_later l3)).trans c4).trans c5⟩, by dsimp only; omega⟩
    · have hT2 : T2 = [] := List.length_eq_zero_iff.1 (by omega)
      subst hT2
      rw [List.append_nil] at hTT
      subst hTT
      have hf : Mg B B' g c L X ([e] ++ V) Y w w2 := by
        refine ⟨V1 ++ e :: V2, front_srt hs (by rw [← hVV]; exact sV) hV1 hV2, ?_, by simpa using h2, c2⟩
        rw [hVV]
        exact front_stb hs hV1
      repeat' (first | (simp (disch := omega) only [push_cast, ↓reduceIte, zA, zG, zB, zH, zI, zC, zJ, zK, zL, zD, zE, zF, zM, zN, zO, zP, zQ, reduceCtorEq, not_true_eq_false, not_false_eq_true]) | (first | refine vIfE_of ?_ ?_ | refine vIfD_of ?_ ?_ | refine vIfQ_of ?_ ?_ | refine vIfV_of ?_ ?_) <;> intro _ | refine And.intro (by omega) ?_ | refine drawn_q ?_ | fail)
      exact hf
/-- One element behind sorted ones. -/
theorem mergeB_c (B B' g c : Nat) (L X U : List El) (e : El) (Y : List El) (a m b : Nat) (w : World) (h : Sw w B B' g c L (X ++ (U ++ [e]) ++ Y)) (hX : X.length = a) (hU : U.length = m - a) (ham : a + 1 < m) (hb : b = m + 1) (sU : Srt elt U) :
    FnC Try.prog 110 #[.slice (some ⟨g, 0, none⟩) (X ++ (U ++ [e]) ++ Y).length c, .int .i64 (a : Int), .int .i64 (m : Int), .int .i64 (b : Int), cmpV] w fun r w' => Mg B B' g c L X (U ++ [e]) Y w w' := by
  have hs := elt_swo
  have hbig := h.big
  have hlen : (X ++ (U ++ [e]) ++ Y).length = b + Y.length := by simp; omega
  rw [hlen] at hbig
  have hme : (X ++ (U ++ [e]) ++ Y)[m]! = e := by
    rw [cur_UV _ _ _ (by omega) (by simp; omega), hX]
    have : m - a = U.length + 0 := by omega
    rw [this, app_r (by simp)]; rfl
  have gU : ∀ t, t < U.length → (X ++ (U ++ [e]) ++ Y)[a + t]! = U[t]! := fun t ht => by
    rw [cur_UV _ _ _ (by omega) (by simp; omega), hX, show a + t - a = t by omega, app_l ht]
  generalize hcur : X ++ (U ++ [e]) ++ Y = cur at *
  generalize hN : cur.length = N at *
  refine enter110 _ _ _ _ _ ?_
  unfold B110
  repeat' (first | (simp (disch := omega) only [push_cast, ↓reduceIte, zA, zG, zB, zH, zI, zC, zJ, zK, zL, zD, zE, zF, zM, zN, zO, zP, zQ, reduceCtorEq, not_true_eq_false, not_false_eq_true]) | (first | refine vIfE_of ?_ ?_ | refine vIfD_of ?_ ?_ | refine vIfQ_of ?_ ?_ | refine vIfV_of ?_ ?_) <;> intro _ | refine And.intro (by omega) ?_ | refine drawn_q ?_ | fail)
  refine vc_loop W110_2 (fun p : Nat × Nat => [(14, .int .i64 (p.1 : Int)), (15, .int .i64 (p.2 : Int))])
    (fun p w' => a ≤ p.1 ∧ p.1 ≤ p.2 ∧ p.2 ≤ m ∧ (p.1 = a ∨ elt cur[m]! cur[p.1 - 1]! = false) ∧ (p.2 = m ∨ elt cur[m]! cur[p.2]! = true) ∧ Later w w') (fun p => p.2 - p.1) (a, m) (by decide) ?_ ?_ ?_
  · simp (disch := omega) only [push_cast, ↓reduceIte, zA, zG, zB, zH, zI, zC, zJ, zK, zL, zD, zE, zF, zM, zN, zO, zP, zQ, reduceCtorEq, not_true_eq_false, not_false_eq_true]
  · exact ⟨by dsimp only; omega, by dsimp only; omega, by dsimp only; omega, .inl rfl, .inl rfl, Later.refl _⟩
  rintro ⟨i, j⟩ uu w1 ⟨q1, q2, q3, q4, q5, l1⟩
  dsimp only at q1 q2 q3 q4 q5
  have h1 := h.later l1
  by_cases hij : i < j
  · obtain ⟨r, hr⟩ : ∃ r : Nat, r = (i + j) / 2 := ⟨_, rfl⟩
    have e1 : ((i : Int) + (j : Int)) / 2 = (r : Int) := by omega
    have e2 : ((i : Int) + (j : Int)) / 2 ^ 1 = (r : Int) := by rw [Int.pow_succ]; simpa using e1
    have t1 : ((r : Int)).toNat = r := by omega
    have t2 : ((m : Int)).toNat = m := by omega
    have fr := h1.at (i := r) (by omega)
    have fa := h1.at (i := m) (by omega)
    have er := h1.elAt (i := r) (by omega)
    have ea := h1.elAt (i := m) (by omega)
    repeat' (first | (simp (disch := omega) only [push_cast, ↓reduceIte, zA, zG, zB, zH, zI, zC, zJ, zK, zL, zD, zE, zF, zM, zN, zO, zP, zQ, reduceCtorEq, not_true_eq_false, not_false_eq_true, e1, e2, t1, t2, fr, fa]) | (first | refine vIfE_of ?_ ?_ | refine vIfD_of ?_ ?_ | refine vIfQ_of ?_ ?_ | refine vIfV_of ?_ ?_) <;> intro _ | refine And.intro (by omega) ?_ | refine drawn_q ?_ | fail)
    refine QFn.of hb34 (v := .int .i64 (ecmp cur[m]! cur[r]!)) (fun w' hl => rcompare_c _ _ w' (ea.is.later hl) (er.is.later hl)) ?_
    have hcmp : elt cur[m]! cur[r]! = decide (ecmp cur[m]! cur[r]! < 0) := rfl
    by_cases hlt : ecmp cur[m]! cur[r]! < 0
    · repeat' (first | (simp (disch := omega) only [push_cast, ↓reduceIte, zA, zG, zB, zH, zI, zC, zJ, zK, zL, zD, zE, zF, zM, zN, zO, zP, zQ, reduceCtorEq, not_true_eq_false, not_false_eq_true]) | (first | refine vIfE_of ?_ ?_ | refine vIfD_of ?_ ?_ | refine vIfQ_of ?_ ?_ | refine vIfV_of ?_ ?_) <;> intro _ | refine And.intro (by omega) ?_ | refine drawn_q ?_ | fail)
      intro w2 l2
      repeat' (first | (simp (disch := omega) only [push_cast, ↓reduceIte, zA, zG, zB, zH, zI, zC, zJ, zK, zL, zD, zE, zF, zM, zN, zO, zP, zQ, reduceCtorEq, not_true_eq_false, not_false_eq_true]) | (first | refine vIfE_of ?_ ?_ | refine vIfD_of ?_ ?_ | refine vIfQ_of ?_ ?_ | refine vIfV_of ?_ ?_) <;> intro _ | refine And.intro (by omega) ?_ | refine drawn_q ?_ | fail)
      exact ⟨rfl, (i, r), by simp (disch := omega) only [push_cast, ↓reduceIte, zA, zG, zB, zH, zI, zC, zJ, zK, zL, zD, zE, zF, zM, zN, zO, zP, zQ, reduceCtorEq, not_true_eq_false, not_false_eq_true], ⟨q1, by dsimp only; omega, by dsimp only; omega, q4, .inr (by rw [hcmp]; exact decide_eq_true hlt), l1.trans l2⟩, by dsimp only; omega⟩
    · repeat' (first | (simp (disch := omega) only [push_cast, ↓reduceIte, zA, zG, zB, zH, zI, zC, zJ, zK, zL, zD, zE, zF, zM, zN, zO, zP, zQ, reduceCtorEq, not_true_eq_false, not_false_eq_true]) | (first | refine vIfE_of ?_ ?_ | refine vIfD_of ?_ ?_ | refine vIfQ_of ?_ ?_ | refine vIfV_of ?_ ?_) <;> intro _ | refine And.intro (by omega) ?_ | refine drawn_q ?_ | fail)
      intro w2 l2
      repeat' (first | (simp (disch := omega) only [push_cast, ↓reduceIte, zA, zG, zB, zH, zI, zC, zJ, zK, zL, zD, zE, zF, zM, zN, zO, zP, zQ, reduceCtorEq, not_true_eq_false, not_false_eq_true]) | (first | refine vIfE_of ?_ ?_ | refine vIfD_of ?_ ?_ | refine vIfQ_of ?_ ?_ | refine vIfV_of ?_ ?_) <;> intro _ | refine And.intro (by omega) ?_ | refine drawn_q ?_ | fail)
      exact ⟨rfl, (r + 1, j), by simp (disch := omega) only [push_cast, ↓reduceIte, zA, zG, zB, zH, zI, zC, zJ, zK, zL, zD, zE, zF, zM, zN, zO, zP, zQ, reduceCtorEq, not_true_eq_false, not_false_eq_true], ⟨by dsimp only; omega, by dsimp only; omega, q3, .inr (by rw [show r + 1 - 1 = r by omega, hcmp]; exact decide_eq_false hlt), q5, l1.trans l2⟩, by dsimp only; omega⟩
  · have hji : j = i := by omega
    subst hji
    obtain ⟨p, hp⟩ : ∃ p, p = j - a := ⟨_, rfl⟩
    have k1 : p = 0 ∨ elt e U[p - 1]! = false := by
      rcases q4 with h | h
      · left; omega
      · by_cases h0 : p = 0
        · exact .inl h0
        · right
          rw [← gU (p - 1) (by omega), ← hme]
          rwa [show a + (p - 1) = j - 1 by omega]
    have k2 : p = U.length ∨ elt e U[p]! = true := by
      rcases q5 with h | h
      · left; omega
      · by_cases h0 : p < U.length
        · right
          rw [← gU p h0, ← hme]
          rwa [show a + p = j by omega]
        · left; omega
    have hS1 := last_at (fun x => elt e x = false) (by omega) k1
    have hS2 := suf_lt hs sU k2
    have hUU : U = U.take p ++ U.drop p := (List.take_append_drop _ _).symm
    have hp1 : (U.take p).length = p := by rw [List.length_take]; omega
    have hp2 : (U.drop p).length = m - j := by rw [List.length_drop]; omega
    generalize U.take p = S1 at *
    generalize U.drop p = S2 at *
    repeat' (first | (simp (disch := omega) only [push_cast, ↓reduceIte, zA, zG, zB, zH, zI, zC, zJ, zK, zL, zD, zE, zF, zM, zN, zO, zP, zQ, reduceCtorEq, not_true_eq_false, not_false_eq_true]) | (first | refine vIfE_of ?_ ?_ | refine vIfD_of ?_ ?_ | refine vIfQ_of ?_ ?_ | refine vIfV_of ?_ ?_) <;> intro _ | refine And.intro (by omega) ?_ | refine drawn_q ?_ | fail)
    refine vc_loop W110_3 (fun s : Nat => [(17, .int .i64 ((j : Int) + (s : Int)))])
      (fun s w' => ∃ T1 T2, S2 = T1 ++ T2 ∧ T1.length = s ∧ Sw w' B B' g c L ((X ++ (S1 ++ T1)) ++ e :: (T2 ++ Y)) ∧ Chg w w' [g]) (fun s => s) (m - j) (by decide) ?_ ?_ ?_
    · have e0 : (j : Int) + ((m : Int) - (j : Int)) = (m : Int) := by omega
      simp (disch := omega) only [push_cast, ↓reduceIte, zA, zG, zB, zH, zI, zC, zJ, zK, zL, zD, zE, zF, zM, zN, zO, zP, zQ, reduceCtorEq, not_true_eq_false, not_false_eq_true, e0]
    · refine ⟨S2, [], by simp, hp2, ?_, Chg.of_later l1⟩
      rw [← hcur, hUU] at h1
      simpa using h1
    rintro s uu2 w2 ⟨T1, T2, hTT, hT1, h2, c2⟩
    have hXT : (X ++ (S1 ++ T1)).length = j + s := by rw [List.length_append, List.length_append]; omega
    have hN2 : ((X ++ (S1 ++ T1)) ++ e :: (T2 ++ Y)).length = N := by
      rw [← hN, ← hcur, hUU, hTT]
      simp only [List.length_append, List.length_cons, List.length_nil]
      omega
    have hTl := congrArg List.length hTT
    rw [List.length_append] at hTl
    by_cases hlt : 0 < s
    · obtain ⟨T, x, rfl⟩ : ∃ T x, T1 = T ++ [x] := ⟨T1.dropLast, T1.getLast (by intro h; rw [h] at hT1; simp at hT1; omega), (List.dropLast_concat_getLast _).symm⟩
      have hcur2 : (X ++ (S1 ++ (T ++ [x]))) ++ e :: (T2 ++ Y) = (X ++ (S1 ++ T)) ++ x :: (e :: (T2 ++ Y)) := by simp
      have hXT' : (X ++ (S1 ++ T)).length = j + s - 1 := by simp only [List.length_append, List.length_cons, List.length_nil] at hXT ⊢; omega
      have ge : ((X ++ (S1 ++ (T ++ [x]))) ++ e :: (T2 ++ Y))[j + s]! = e := by rw [← hXT]; exact get_app _ _ _
      have gx : ((X ++ (S1 ++ (T ++ [x]))) ++ e :: (T2 ++ Y))[j + s - 1]! = x := by rw [hcur2, ← hXT']; exact get_app _ _ _
      have hN2' : j + s < ((X ++ (S1 ++ (T ++ [x]))) ++ e :: (T2 ++ Y)).length := by
        rw [List.length_append, hXT]; simp
      have t1 : ((j : Int) + (s : Int)).toNat = j + s := by omega
      have t2 : ((j : Int) + (s : Int) - 1).toNat = j + s - 1 := by omega
      have fe := h2.at (i := j + s) (by omega)
      have fx := h2.at (i := j + s - 1) (by omega)
      rw [ge] at fe
      rw [gx] at fx
      repeat' (first | (simp (disch := omega) only [push_cast, ↓reduceIte, zA, zG, zB, zH, zI, zC, zJ, zK, zL, zD, zE, zF, zM, zN, zO, zP, zQ, reduceCtorEq, not_true_eq_false, not_false_eq_true]) | (first | refine vIfE_of ?_ ?_ | refine vIfD_of ?_ ?_ | refine vIfQ_of ?_ ?_ | refine vIfV_of ?_ ?_) <;> intro _ | refine And.intro (by omega) ?_ | fail)
      refine drawnS_k 15 ?_
      repeat' (first | (simp (disch := omega) only [push_cast, ↓reduceIte, zA, zG, zB, zH, zI, zC, zJ, zK, zL, zD, zE, zF, zM, zN, zO, zP, zQ, reduceCtorEq, not_true_eq_false, not_false_eq_true, t1, t2, fe, fx]) | (first | refine vIfE_of ?_ ?_ | refine vIfD_of ?_ ?_ | refine vIfQ_of ?_ ?_ | refine vIfV_of ?_ ?_) <;> intro _ | refine And.intro (by omega) ?_ | fail)
      refine ⟨rfl, fun w3 l3 => ⟨by simp (disch := omega) only [push_cast, ↓reduceIte, zA, zG, zB, zH, zI, zC, zJ, zK, zL, zD, zE, zF, zM, zN, zO, zP, zQ, reduceCtorEq, not_true_eq_false, not_false_eq_true, implies_true, and_self], ?_⟩⟩
      have h3 := h2.later l3
      repeat' (first | (simp (disch := omega) only [push_cast, ↓reduceIte, zA, zG, zB, zH, zI, zC, zJ, zK, zL, zD, zE, zF, zM, zN, zO, zP, zQ, reduceCtorEq, not_true_eq_false, not_false_eq_true, t1, t2]) | (first | refine vIfE_of ?_ ?_ | refine vIfD_of ?_ ?_ | refine vIfQ_of ?_ ?_ | refine vIfV_of ?_ ?_) <;> intro _ | refine And.intro (by omega) ?_ | fail)
      have mx := h3.mem (i := j + s - 1) (by omega)
      have me := h3.mem (i := j + s) (by omega)
      rw [gx] at mx
      rw [ge] at me
      refine h3.store (i := j + s) (by omega) mx fun w4 h4 c4 => ?_
      repeat' (first | (simp (disch := omega) only [push_cast, ↓reduceIte, zA, zG, zB, zH, zI, zC, zJ, zK, zL, zD, zE, zF, zM, zN, zO, zP, zQ, reduceCtorEq, not_true_eq_false, not_false_eq_true, t2]) | (first | refine vIfE_of ?_ ?_ | refine vIfD_of ?_ ?_ | refine vIfQ_of ?_ ?_ | refine vIfV_of ?_ ?_) <;> intro _ | refine And.intro (by omega) ?_ | fail)
      refine h4.store (i := j + s - 1) (by simp only [List.length_set]; omega) me fun w5 h5 c5 => ?_
      have e6 : ((((X ++ (S1 ++ (T ++ [x]))) ++ e :: (T2 ++ Y)).set (j + s) x).set (j + s - 1) e) = (X ++ (S1 ++ T)) ++ e :: ((x :: T2) ++ Y) := by
        have := sw_near (X ++ (S1 ++ T)) (T2 ++ Y) x e
        unfold sw at this
        rw [← hcur2, show (X ++ (S1 ++ T)).length + 1 = j + s by rw [hXT']; omega, hXT', ge, gx] at this
        rw [this]
        simp
      rw [e6] at h5
      have e7 : (j : Int) + (s : Int) - 1 = (j : Int) + ((s - 1 : Nat) : Int) := by omega
      repeat' (first | (simp (disch := omega) only [push_cast, ↓reduceIte, zA, zG, zB, zH, zI, zC, zJ, zK, zL, zD, zE, zF, zM, zN, zO, zP, zQ, reduceCtorEq, not_true_eq_false, not_false_eq_true, e7]) | (first | refine vIfE_of ?_ ?_ | refine vIfD_of ?_ ?_ | refine vIfQ_of ?_ ?_ | refine vIfV_of ?_ ?_) <;> intro _ | refine And.intro (by omega) ?_ | refine drawn_q ?_ | fail)
      exact ⟨rfl, s - 1, by simp (disch := omega) only [push_cast, ↓reduceIte, zA, zG, zB, zH, zI, zC, zJ, zK, zL, zD, zE, zF, zM, zN, zO, zP, zQ, reduceCtorEq, not_true_eq_false, not_false_eq_true, e7], ⟨T, x :: T2, by rw [hTT]; simp, by simp at hT1; omega, h5, ((c2.trans (Chg.of_later l3)).trans c4).trans c5⟩, by dsimp only; omega⟩
    · have hT2 : T1 = [] := List.length_eq_zero_iff.1 (by omega)
      subst hT2
      rw [List.nil_append] at hTT
      subst hTT
      have hf : Mg B B' g c L X (U ++ [e]) Y w w2 := by
        refine ⟨S1 ++ e :: S2, ins_srt hs (by rw [← hUU]; exact sU) hS1 hS2, ?_, by simpa using h2, c2⟩
        rw [hUU]
        exact ins_stb hs hS2
      repeat' (first | (simp (disch := omega) only [push_cast, ↓reduceIte, zA, zG, zB, zH, zI, zC, zJ, zK, zL, zD, zE, zF, zM, zN, zO, zP, zQ, reduceCtorEq, not_true_eq_false, not_false_eq_true]) | (first | refine vIfE_of ?_ ?_ | refine vIfD_of ?_ ?_ | refine vIfQ_of ?_ ?_ | refine vIfV_of ?_ ?_) <;> intro _ | refine And.intro (by omega) ?_ | refine drawn_q ?_ | fail)
      exact hf
end Go.Proofs.Ythihbgpaoldbjaa
end
