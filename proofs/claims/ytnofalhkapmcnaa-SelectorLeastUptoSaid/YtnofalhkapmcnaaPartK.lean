/- Granularities: aligned, coarser (printed by mk7.py out of XBkt1). -/
import Derived.Test.YtnofalhkapmcnaaPartJ
set_option linter.all false
open Nat renaming reduceEqDiff → zA, reducePow → zB, reduceMul → zC, reduceAdd → zD, reduceSub → zE, reduceLeDiff → zF
open Int renaming reduceToNat → zG, reducePow → zH, reduceNeg → zI, reduceMul → zJ, reduceAdd → zK, reduceSub → zL, reduceLT → zM, reduceLE → zN, reduceEq → zO, reduceMod → zP, reduceDiv → zQ
section
set_option linter.unusedSimpArgs false
namespace Go.Proofs.Ytnofalhkapmcnaa
set_option maxRecDepth 100000
open Go.Vc Go.Bkt
abbrev Rt (g : Int) : Prop := 1 ≤ g ∧ g ≤ 1048576
abbrev I6 (t : Int) : Prop := -9223372036854775808 ≤ t ∧ t ≤ 9223372036854775807
theorem bright_c (g : Int) (w : World) (h : I6 g) : FnC Try.prog 82 #[.int .i64 g] w fun v w' => v = .bool (decide (Rt g)) ∧ w' = w := by
  refine enter82 _ ?_
  unfold B82
  by_cases h1 : 1 ≤ g <;> by_cases h2 : g ≤ 1048576
  all_goals
    repeat' (first | (simp (disch := omega) only [push_cast, ↓reduceIte, zA, zG, zB, zH, zI, zC, zJ, zK, zL, zD, zE, zF, zM, zN, zO, zP, zQ, reduceCtorEq, not_true_eq_false, not_false_eq_true]) | (first | refine iE ?_ ?_ | refine iD ?_ ?_ | refine iQ ?_ ?_ | refine iV ?_ ?_) <;> intro _ | refine And.intro (by omega) ?_ | refine drawn_q ?_ | fail)
    all_goals simp [h1, h2]
theorem rright_c (g : Int) (w : World) (h : I6 g) : FnC Try.prog 84 #[.int .i64 g] w fun v w' => v = .bool (decide (Rt g)) ∧ w' = w := by
  refine enter84 _ ?_
  unfold B84
  by_cases h1 : 1 ≤ g <;> by_cases h2 : g ≤ 1048576
  all_goals
    repeat' (first | (simp (disch := omega) only [push_cast, ↓reduceIte, zA, zG, zB, zH, zI, zC, zJ, zK, zL, zD, zE, zF, zM, zN, zO, zP, zQ, reduceCtorEq, not_true_eq_false, not_false_eq_true]) | (first | refine iE ?_ ?_ | refine iD ?_ ?_ | refine iQ ?_ ?_ | refine iV ?_ ?_) <;> intro _ | refine And.intro (by omega) ?_ | refine drawn_q ?_ | fail)
    all_goals simp [h1, h2]
def alB (t g : Int) : Bool := decide (Rt g ∧ t % g = 0)
def coB (a b : Int) : Bool := decide (Rt a ∧ Rt b ∧ a % b = 0)
theorem tm0 (t g : Int) (hg : 0 < g) : t.tmod g = 0 ↔ t % g = 0 := by
  obtain ⟨h1, h2, h3, _⟩ := tm t g hg
  rw [h3]; split <;> omega
theorem baligned_c (t g : Int) (w : World) (ht : I6 t) (hg : I6 g) : FnC Try.prog 39 #[.int .i64 t, .int .i64 g] w fun v w' => v = .bool (alB t g) ∧ w' = w := by
  refine enter39 _ _ ?_
  unfold B39 alB
  repeat' (first | (simp (disch := omega) only [push_cast, ↓reduceIte, zA, zG, zB, zH, zI, zC, zJ, zK, zL, zD, zE, zF, zM, zN, zO, zP, zQ, reduceCtorEq, not_true_eq_false, not_false_eq_true]) | (first | refine iE ?_ ?_ | refine iD ?_ ?_ | refine iQ ?_ ?_ | refine iV ?_ ?_) <;> intro _ | refine And.intro (by omega) ?_ | refine drawn_q ?_ | fail)
  refine (bright_c g w hg).mono ?_
  rintro _ w0 ⟨rfl, hw⟩
  obtain rfl := hw.symm
  by_cases h0 : Rt g
  · have h1 := tm0 t g (by omega)
    by_cases h2 : t % g = 0
    · have h3 := h1.2 h2
      repeat' (first | (simp (disch := omega) only [push_cast, ↓reduceIte, zA, zG, zB, zH, zI, zC, zJ, zK, zL, zD, zE, zF, zM, zN, zO, zP, zQ, reduceCtorEq, not_true_eq_false, not_false_eq_true, h0, h2, h3, decide_true, decide_false]) | (first | refine iE ?_ ?_ | refine iD ?_ ?_ | refine iQ ?_ ?_ | refine iV ?_ ?_) <;> intro _ | refine And.intro (by omega) ?_ | refine drawn_q ?_ | fail)
      all_goals first | omega | (simp; done) | (simp; omega)
    · have h3 : ¬ t.tmod g = 0 := fun h => h2 (h1.1 h)
      repeat' (first | (simp (disch := omega) only [push_cast, ↓reduceIte, zA, zG, zB, zH, zI, zC, zJ, zK, zL, zD, zE, zF, zM, zN, zO, zP, zQ, reduceCtorEq, not_true_eq_false, not_false_eq_true, h0, h2, h3, decide_true, decide_false]) | (first | refine iE ?_ ?_ | refine iD ?_ ?_ | refine iQ ?_ ?_ | refine iV ?_ ?_) <;> intro _ | refine And.intro (by omega) ?_ | refine drawn_q ?_ | fail)
      all_goals first | omega | (simp; done) | (simp; omega)
  · repeat' (first | (simp (disch := omega) only [push_cast, ↓reduceIte, zA, zG, zB, zH, zI, zC, zJ, zK, zL, zD, zE, zF, zM, zN, zO, zP, zQ, reduceCtorEq, not_true_eq_false, not_false_eq_true, h0, decide_true, decide_false]) | (first | refine iE ?_ ?_ | refine iD ?_ ?_ | refine iQ ?_ ?_ | refine iV ?_ ?_) <;> intro _ | refine And.intro (by omega) ?_ | refine drawn_q ?_ | fail)
    all_goals simp
theorem bcoarser_c (a b : Int) (w : World) (ha : I6 a) (hb : I6 b) : FnC Try.prog 40 #[.int .i64 a, .int .i64 b] w fun v w' => v = .bool (coB a b) ∧ w' = w := by
  refine enter40 _ _ ?_
  unfold B40 coB
  repeat' (first | (simp (disch := omega) only [push_cast, ↓reduceIte, zA, zG, zB, zH, zI, zC, zJ, zK, zL, zD, zE, zF, zM, zN, zO, zP, zQ, reduceCtorEq, not_true_eq_false, not_false_eq_true]) | (first | refine iE ?_ ?_ | refine iD ?_ ?_ | refine iQ ?_ ?_ | refine iV ?_ ?_) <;> intro _ | refine And.intro (by omega) ?_ | refine drawn_q ?_ | fail)
  refine (bright_c a w ha).mono ?_
  rintro _ w0 ⟨rfl, hw⟩
  obtain rfl := hw.symm
  by_cases h0 : Rt a
  · repeat' (first | (simp (disch := omega) only [push_cast, ↓reduceIte, zA, zG, zB, zH, zI, zC, zJ, zK, zL, zD, zE, zF, zM, zN, zO, zP, zQ, reduceCtorEq, not_true_eq_false, not_false_eq_true, h0, decide_true, decide_false]) | (first | refine iE ?_ ?_ | refine iD ?_ ?_ | refine iQ ?_ ?_ | refine iV ?_ ?_) <;> intro _ | refine And.intro (by omega) ?_ | refine drawn_q ?_ | fail)
    refine (bright_c b w hb).mono ?_
    rintro _ w0 ⟨rfl, hw⟩
    obtain rfl := hw.symm
    by_cases h4 : Rt b
    · have h1 := tm0 a b (by omega)
      by_cases h2 : a % b = 0
      · have h3 := h1.2 h2
        repeat' (first | (simp (disch := omega) only [push_cast, ↓reduceIte, zA, zG, zB, zH, zI, zC, zJ, zK, zL, zD, zE, zF, zM, zN, zO, zP, zQ, reduceCtorEq, not_true_eq_false, not_false_eq_true, h4, h2, h3, decide_true, decide_false]) | (first | refine iE ?_ ?_ | refine iD ?_ ?_ | refine iQ ?_ ?_ | refine iV ?_ ?_) <;> intro _ | refine And.intro (by omega) ?_ | refine drawn_q ?_ | fail)
        all_goals first | omega | (simp; done) | (simp; omega)
      · have h3 : ¬ a.tmod b = 0 := fun h => h2 (h1.1 h)
        repeat' (first | (simp (disch := omega) only [push_cast, ↓reduceIte, zA, zG, zB, zH, zI, zC, zJ, zK, zL, zD, zE, zF, zM, zN, zO, zP, zQ, reduceCtorEq, not_true_eq_false, not_false_eq_true, h4, h2, h3, decide_true, decide_false]) | (first | refine iE ?_ ?_ | refine iD ?_ ?_ | refine iQ ?_ ?_ | refine iV ?_ ?_) <;> intro _ | refine And.intro (by omega) ?_ | refine drawn_q ?_ | fail)
        all_goals first | omega | (simp; done) | (simp; omega)
    · repeat' (first | (simp (disch := omega) only [push_cast, ↓reduceIte, zA, zG, zB, zH, zI, zC, zJ, zK, zL, zD, zE, zF, zM, zN, zO, zP, zQ, reduceCtorEq, not_true_eq_false, not_false_eq_true, h4, decide_true, decide_false]) | (first | refine iE ?_ ?_ | refine iD ?_ ?_ | refine iQ ?_ ?_ | refine iV ?_ ?_) <;> intro _ | refine And.intro (by omega) ?_ | refine drawn_q ?_ | fail)
      all_goals simp
  · repeat' (first | (simp (disch := omega) only [push_cast, ↓reduceIte, zA, zG, zB, zH, zI, zC, zJ, zK, zL, zD, zE, zF, zM, zN, zO, zP, zQ, reduceCtorEq, not_true_eq_false, not_false_eq_true, h0, decide_true, decide_false]) | (first | refine iE ?_ ?_ | refine iD ?_ ?_ | refine iQ ?_ ?_ | refine iV ?_ ?_) <;> intro _ | refine And.intro (by omega) ?_ | refine drawn_q ?_ | fail)
    all_goals simp
theorem rcoarser_c (a b : Int) (w : World) (ha : I6 a) (hb : I6 b) : FnC Try.prog 89 #[.int .i64 a, .int .i64 b] w fun v w' => v = .bool (coB a b) ∧ w' = w := by
  refine enter89 _ _ ?_
  unfold B89 coB
  repeat' (first | (simp (disch := omega) only [push_cast, ↓reduceIte, zA, zG, zB, zH, zI, zC, zJ, zK, zL, zD, zE, zF, zM, zN, zO, zP, zQ, reduceCtorEq, not_true_eq_false, not_false_eq_true]) | (first | refine iE ?_ ?_ | refine iD ?_ ?_ | refine iQ ?_ ?_ | refine iV ?_ ?_) <;> intro _ | refine And.intro (by omega) ?_ | refine drawn_q ?_ | fail)
  refine (rright_c a w ha).mono ?_
  rintro _ w0 ⟨rfl, hw⟩
  obtain rfl := hw.symm
  repeat' (first | (simp (disch := omega) only [push_cast, ↓reduceIte, zA, zG, zB, zH, zI, zC, zJ, zK, zL, zD, zE, zF, zM, zN, zO, zP, zQ, reduceCtorEq, not_true_eq_false, not_false_eq_true]) | (first | refine iE ?_ ?_ | refine iD ?_ ?_ | refine iQ ?_ ?_ | refine iV ?_ ?_) <;> intro _ | refine And.intro (by omega) ?_ | refine drawn_q ?_ | fail)
  refine (rright_c b w hb).mono ?_
  rintro _ w0 ⟨rfl, hw⟩
  obtain rfl := hw.symm
  by_cases h0 : Rt a
  · by_cases h4 : Rt b
    · have h1 := tm0 a b (by omega)
      by_cases h2 : a % b = 0
      · have h3 := h1.2 h2
        repeat' (first | (simp (disch := omega) only [push_cast, ↓reduceIte, zA, zG, zB, zH, zI, zC, zJ, zK, zL, zD, zE, zF, zM, zN, zO, zP, zQ, reduceCtorEq, not_true_eq_false, not_false_eq_true, h0, h4, h2, h3, decide_true, decide_false]) | (first | refine iE ?_ ?_ | refine iD ?_ ?_ | refine iQ ?_ ?_ | refine iV ?_ ?_) <;> intro _ | refine And.intro (by omega) ?_ | refine drawn_q ?_ | fail)
        all_goals first | omega | (simp; done) | (simp; omega)
      · have h3 : ¬ a.tmod b = 0 := fun h => h2 (h1.1 h)
        repeat' (first | (simp (disch := omega) only [push_cast, ↓reduceIte, zA, zG, zB, zH, zI, zC, zJ, zK, zL, zD, zE, zF, zM, zN, zO, zP, zQ, reduceCtorEq, not_true_eq_false, not_false_eq_true, h0, h4, h2, h3, decide_true, decide_false]) | (first | refine iE ?_ ?_ | refine iD ?_ ?_ | refine iQ ?_ ?_ | refine iV ?_ ?_) <;> intro _ | refine And.intro (by omega) ?_ | refine drawn_q ?_ | fail)
        all_goals first | omega | (simp; done) | (simp; omega)
    · repeat' (first | (simp (disch := omega) only [push_cast, ↓reduceIte, zA, zG, zB, zH, zI, zC, zJ, zK, zL, zD, zE, zF, zM, zN, zO, zP, zQ, reduceCtorEq, not_true_eq_false, not_false_eq_true, h0, h4, decide_true, decide_false]) | (first | refine iE ?_ ?_ | refine iD ?_ ?_ | refine iQ ?_ ?_ | refine iV ?_ ?_) <;> intro _ | refine And.intro (by omega) ?_ | refine drawn_q ?_ | fail)
      all_goals simp
  · repeat' (first | (simp (disch := omega) only [push_cast, ↓reduceIte, zA, zG, zB, zH, zI, zC, zJ, zK, zL, zD, zE, zF, zM, zN, zO, zP, zQ, reduceCtorEq, not_true_eq_false, not_false_eq_true, h0, decide_true, decide_false]) | (first | refine iE ?_ ?_ | refine iD ?_ ?_ | refine iQ ?_ ?_ | refine iV ?_ ?_) <;> intro _ | refine And.intro (by omega) ?_ | refine drawn_q ?_ | fail)
    all_goals simp
end Go.Proofs.Ytnofalhkapmcnaa
end
section
set_option linter.unusedSimpArgs false
namespace Go.Proofs.Ytnofalhkapmcnaa
open Go.Vc Go.Key Go.Cub
set_option maxRecDepth 100000
theorem vStore_tier {K : Value → World → Prop} (c : CD) (w : World) (hc : c.Ok w) (hK : K undef (w.alloc (.cells (cdC c).toArray 60))) :
    vStoreD Try.prog 60 (some 3) (.pointer (some ⟨w.heap.size, 0, none⟩)) (.agg (cdC c).toArray) K (w.alloc (.cells #[.int .i64 0, .int .i64 0, .slice none 0 0] 60)) := by
  obtain ⟨o, k, hv⟩ := Sl.slice hc.dv
  exact vStore_new rfl rfl (fun u hu => by
    simp only [cdC, List.mem_toArray, List.mem_cons, List.not_mem_nil, or_false] at hu
    rcases hu with rfl | rfl | rfl
    · rfl
    · rfl
    · rw [hv]; rfl) hK
theorem vStore_proj {K : Value → World → Prop} (c : CD) (w : World) (hc : c.Ok w) (hK : K undef (w.alloc (.cells (cdC c).toArray 51))) :
    vStoreD Try.prog 51 (some 3) (.pointer (some ⟨w.heap.size, 0, none⟩)) (.agg (cdC c).toArray) K (w.alloc (.cells #[.int .i64 0, .int .i64 0, .slice none 0 0] 51)) := by
  obtain ⟨o, k, hv⟩ := Sl.slice hc.dv
  exact vStore_new rfl rfl (fun u hu => by
    simp only [cdC, List.mem_toArray, List.mem_cons, List.not_mem_nil, or_false] at hu
    rcases hu with rfl | rfl | rfl
    · rfl
    · rfl
    · rw [hv]; rfl) hK
structure PlOk (d : List ByteArray) (p : PD) : Prop where
  n : 1 ≤ p.tl.length ∧ p.tl.length ≤ 4 ∧ p.pl.length ≤ 4
  first : ∀ h : 0 < p.tl.length, p.tl[0].a = 0 ∧ p.tl[0].dl = d
  tier : ∀ i (h : i < p.tl.length), grOk p.tl[i].g = true ∧ 0 ≤ p.tl[i].a ∧ p.tl[i].a ≤ 1099511627776
  next : ∀ i (h : i + 1 < p.tl.length), coB p.tl[i + 1].g p.tl[i].g = true ∧ sub p.tl[i].dl 0 p.tl[i + 1].dl = true ∧ p.tl[i].a < p.tl[i + 1].a
  proj : ∀ i (h : i < p.pl.length), 0 ≤ p.pl[i].a ∧ ∃ h2 : p.pl[i].a.toNat < p.tl.length, coB p.pl[i].g p.tl[p.pl[i].a.toNat].g = true ∧ sub p.tl[p.pl[i].a.toNat].dl 0 p.pl[i].dl = true
  hz : 0 ≤ p.hz ∧ p.hz ≤ 1099511627776 ∧ ∀ h : 0 < p.tl.length, p.tl[p.tl.length - 1].a < p.hz
set_option maxHeartbeats 2000000 in
theorem pcheck_c (dv mv : Value) (d m : List ByteArray) (p : PD) (w : World) (h : ScIs w dv mv d m) (hp : p.Ok w) : FnC Try.prog 56 #[scV dv mv, .agg (pdC p).toArray] w fun v w' => (∃ e : Int, v = .int .i64 e ∧ (e = 0 → PlOk d p)) ∧ Later w w' := by
  have esc : scV dv mv = .agg #[dv, mv] := rfl
  obtain ⟨to, tc, htv, ht1, ht2⟩ := RecS.slice hp.tv
  obtain ⟨po, pc, hpv, hp1, hp2⟩ := RecS.slice hp.pv
  have fail : ∀ (w' : World), Later w w' → (∃ e : Int, Value.int .i64 172 = .int .i64 e ∧ (e = 0 → PlOk d p)) ∧ Later w w' := fun w' hl => ⟨⟨172, rfl, fun h => absurd h (by decide)⟩, hl⟩
  rw [esc]
  refine enter56 _ _ ?_
  unfold B56
  have eca : (Value.agg (pdC p).toArray).cells = (pdC p).toArray := rfl
  have ecb : (Value.agg #[dv, mv]).cells = #[dv, mv] := rfl
  obtain ⟨l1, s1, F⟩ := box2 w dv mv 24
  have B2 := Blk.new (w.alloc (.cells #[dv, mv] 24)) (pdC p).toArray 28
  have l2 := later_alloc (w.alloc (.cells #[dv, mv] 24)) (.cells (pdC p).toArray 28)
  rw [s1] at B2
  repeat' (first | (simp (disch := omega) only [push_cast, ↓reduceIte, zA, zG, zB, zH, zI, zC, zJ, zK, zL, zD, zE, zF, zM, zN, zO, zP, zQ, reduceCtorEq, not_true_eq_false, not_false_eq_true, eca, ecb, s1]) | (first | refine iE ?_ ?_ | refine iD ?_ ?_ | refine iQ ?_ ?_ | refine iV ?_ ?_) <;> intro _ | refine And.intro (by omega) ?_ | fail)
  have l12 := l1.trans l2
  obtain ⟨f0, f1, f2⟩ := F _ l2
  clear F
  generalize (w.alloc (.cells #[dv, mv] 24)).alloc (.cells (pdC p).toArray 28) = w1 at *
  generalize hkf : w.heap.size = kf at *
  have h1 := h.later l12
  have p1 := hp.later l12
  obtain ⟨a0, a1, a2⟩ := pdAt B2
  rw [htv] at a0
  rw [hpv] at a1
  by_cases hn : 1 ≤ p.tl.length ∧ p.tl.length ≤ 4 ∧ p.pl.length ≤ 4
  case neg =>
    repeat' (first | (simp (disch := omega) only [push_cast, ↓reduceIte, zA, zG, zB, zH, zI, zC, zJ, zK, zL, zD, zE, zF, zM, zN, zO, zP, zQ, reduceCtorEq, not_true_eq_false, not_false_eq_true, a0, a1, addr_add_eq, Nat.zero_add]) | (first | refine iE ?_ ?_ | refine iD ?_ ?_ | refine iQ ?_ ?_ | refine iV ?_ ?_) <;> intro _ | refine And.intro (by omega) ?_ | refine drawn_q ?_ | fail)
    all_goals first | exact fail _ l12 | (exfalso; exact hn ⟨by omega, by omega, by omega⟩)
  obtain ⟨n1, n2, n3⟩ := hn
  have e1 : decide ((p.tl.length : Int) < 1) = false := decide_eq_false (by omega)
  have e2 : decide (4 < (p.tl.length : Int)) = false := decide_eq_false (by omega)
  have e3 : decide (4 < (p.pl.length : Int)) = false := decide_eq_false (by omega)
  have ht := p1.tv
  rw [htv] at ht
  obtain ⟨ta, rfl, _⟩ := RecS.at cdC_len ht (i := 0) (by omega)
  have fa0 := RecS.cell (j := 0) cdC_len ht (i := 0) (by omega) rfl
  have fa2 := RecS.cell (j := 2) cdC_len ht (i := 0) (by omega) rfl
  have az : ta.add 0 = ta := rfl
  rw [Nat.zero_mul, az] at fa0 fa2
  rw [az] at fa0
  by_cases hz0 : p.tl[0].a = 0
  case neg =>
    have e4 : decide (p.tl[0].a = 0) = false := decide_eq_false hz0
    repeat' (first | (simp (disch := omega) only [push_cast, ↓reduceIte, zA, zG, zB, zH, zI, zC, zJ, zK, zL, zD, zE, zF, zM, zN, zO, zP, zQ, reduceCtorEq, not_true_eq_false, not_false_eq_true, a0, a1, e1, e2, e3, fa0, e4, addr_add_eq, Nat.zero_add]) | (first | refine iE ?_ ?_ | refine iD ?_ ?_ | refine iQ ?_ ?_ | refine iV ?_ ?_) <;> intro _ | refine And.intro (by omega) ?_ | refine drawn_q ?_ | fail)
    exact fail _ l12
  have e4 : decide (p.tl[0].a = 0) = true := decide_eq_true hz0
  have k0 := p1.tl _ (List.getElem_mem (show 0 < p.tl.length by omega))
  repeat' (first | (simp (disch := omega) only [push_cast, ↓reduceIte, zA, zG, zB, zH, zI, zC, zJ, zK, zL, zD, zE, zF, zM, zN, zO, zP, zQ, reduceCtorEq, not_true_eq_false, not_false_eq_true, a0, a1, e1, e2, e3, fa0, fa2, f0, e4, addr_add_eq, Nat.zero_add]) | (first | refine iE ?_ ?_ | refine iD ?_ ?_ | refine iQ ?_ ?_ | refine iV ?_ ?_) <;> intro _ | refine And.intro (by omega) ?_ | refine drawn_q ?_ | fail)
  refine QFn.of hb32 (v := .bool (decide (p.tl[0].dl = d))) (fun w' hl => texts_c _ _ _ _ w' (Sl.later k0.dv hl) (Sl.later h1.dS hl)) ?_
  by_cases hd0 : p.tl[0].dl = d
  case neg =>
    have e5 : decide (p.tl[0].dl = d) = false := decide_eq_false hd0
    repeat' (first | (simp (disch := omega) only [push_cast, ↓reduceIte, zA, zG, zB, zH, zI, zC, zJ, zK, zL, zD, zE, zF, zM, zN, zO, zP, zQ, reduceCtorEq, not_true_eq_false, not_false_eq_true, e5]) | (first | refine iE ?_ ?_ | refine iD ?_ ?_ | refine iQ ?_ ?_ | refine iV ?_ ?_) <;> intro _ | refine And.intro (by omega) ?_ | refine drawn_q ?_ | fail)
    all_goals first | exact fun w' hl => fail _ (l12.trans hl) | trace_state
  have e5 : decide (p.tl[0].dl = d) = true := decide_eq_true hd0
  repeat' (first | (simp (disch := omega) only [push_cast, ↓reduceIte, zA, zG, zB, zH, zI, zC, zJ, zK, zL, zD, zE, zF, zM, zN, zO, zP, zQ, reduceCtorEq, not_true_eq_false, not_false_eq_true, e5]) | (first | refine iE ?_ ?_ | refine iD ?_ ?_ | refine iQ ?_ ?_ | refine iV ?_ ?_) <;> intro _ | refine And.intro (by omega) ?_ | refine drawn_q ?_ | fail)
  intro w2 l3
  have l13 := l12.trans l3
  refine vc_loop W56_0 (fun i : Nat => [(4, .int .i64 0), (7, .int .i64 (i : Int))]) (fun i w' => i ≤ p.tl.length ∧ Later w2 w' ∧ (∀ j (h : j < p.tl.length), j < i → grOk p.tl[j].g = true ∧ 0 ≤ p.tl[j].a ∧ p.tl[j].a ≤ 1099511627776) ∧ ∀ j (h : j + 1 < p.tl.length), j + 1 < i → coB p.tl[j + 1].g p.tl[j].g = true ∧ sub p.tl[j].dl 0 p.tl[j + 1].dl = true ∧ p.tl[j].a < p.tl[j + 1].a) (fun i => p.tl.length - i) 0 (by decide) ?_ ?_ ?_
  · simp (disch := omega) only [push_cast, ↓reduceIte, zA, zG, zB, zH, zI, zC, zJ, zK, zL, zD, zE, zF, zM, zN, zO, zP, zQ, reduceCtorEq, not_true_eq_false, not_false_eq_true]
  · exact ⟨Nat.zero_le _, Later.refl _, fun j _ hj => absurd hj (by omega), fun j _ hj => absurd hj (by omega)⟩
  rintro i uu w3 ⟨hi, l4, hT, hN⟩
  have l14 := l13.trans l4
  obtain ⟨b0, b1, b2⟩ := pdAt (pdLater B2 (l3.trans l4))
  rw [htv] at b0
  rw [hpv] at b1
  have p3 := p1.later (l3.trans l4)
  have h3 := h1.later (l3.trans l4)
  by_cases hik : i < p.tl.length
  · have hd2 : decide ((i : Int) < (p.tl.length : Int)) = true := decide_eq_true (by omega)
    have h4 := p3.tv
    rw [htv] at h4
    have fa := RecS.get cdC_len h4 hik
    have ki := p3.tl _ (List.getElem_mem hik)
    repeat' (first | (simp (disch := omega) only [push_cast, ↓reduceIte, zA, zG, zB, zH, zI, zC, zJ, zK, zL, zD, zE, zF, zM, zN, zO, zP, zQ, reduceCtorEq, not_true_eq_false, not_false_eq_true, hd2, b0, fa, addr_add_eq, Nat.zero_add]) | (first | refine iE ?_ ?_ | refine iD ?_ ?_ | refine iQ ?_ ?_ | refine iV ?_ ?_) <;> intro _ | refine And.intro (by omega) ?_ | refine drawn_q ?_ | fail)
    refine vStore_tier p.tl[i] w3 ki ?_
    have l5 := later_alloc w3 (.cells (cdC p.tl[i]).toArray 60)
    have B5 := Blk.new w3 (cdC p.tl[i]).toArray 60
    generalize w3.alloc (.cells (cdC p.tl[i]).toArray 60) = w5 at *
    generalize w3.heap.size = kt at *
    have c0 : w5.cell? ⟨kt, 0, none⟩ = some (.int .i64 p.tl[i].a) := B5.cell 0
    have c1 : w5.cell? ⟨kt, 1, none⟩ = some (.int .i64 p.tl[i].g) := B5.cell 1
    repeat' (first | (simp (disch := omega) only [push_cast, ↓reduceIte, zA, zG, zB, zH, zI, zC, zJ, zK, zL, zD, zE, zF, zM, zN, zO, zP, zQ, reduceCtorEq, not_true_eq_false, not_false_eq_true, c1, addr_add_eq, Nat.zero_add]) | (first | refine iE ?_ ?_ | refine iD ?_ ?_ | refine iQ ?_ ?_ | refine iV ?_ ?_) <;> intro _ | refine And.intro (by omega) ?_ | refine drawn_q ?_ | fail)
    refine (dgright_c p.tl[i].g w5).mono ?_
    rintro _ w0 ⟨rfl, h0⟩; obtain rfl := h0.symm
    repeat' (first | (simp (disch := omega) only [push_cast, ↓reduceIte, zA, zG, zB, zH, zI, zC, zJ, zK, zL, zD, zE, zF, zM, zN, zO, zP, zQ, reduceCtorEq, not_true_eq_false, not_false_eq_true, c0, addr_add_eq, Nat.zero_add]) | (first | refine iE ?_ ?_ | refine iD ?_ ?_ | refine iQ ?_ ?_ | refine iV ?_ ?_) <;> intro _ | refine And.intro (by omega) ?_ | refine drawn_q ?_ | fail)
    refine (age_c p.tl[i].a w5).mono ?_
    rintro _ w0 ⟨rfl, h0⟩; obtain rfl := h0.symm
    have l15 := l14.trans l5
    cases hg : grOk p.tl[i].g with
    | false =>
      repeat' (first | (simp (disch := omega) only [push_cast, ↓reduceIte, zA, zG, zB, zH, zI, zC, zJ, zK, zL, zD, zE, zF, zM, zN, zO, zP, zQ, reduceCtorEq, not_true_eq_false, not_false_eq_true]) | (first | refine iE ?_ ?_ | refine iD ?_ ?_ | refine iQ ?_ ?_ | refine iV ?_ ?_) <;> intro _ | refine And.intro (by omega) ?_ | refine drawn_q ?_ | fail)
      exact fail _ l15
    | true =>
    cases ha : (decide (0 ≤ p.tl[i].a) && decide (p.tl[i].a ≤ 1099511627776)) with
    | false =>
      repeat' (first | (simp (disch := omega) only [push_cast, ↓reduceIte, zA, zG, zB, zH, zI, zC, zJ, zK, zL, zD, zE, zF, zM, zN, zO, zP, zQ, reduceCtorEq, not_true_eq_false, not_false_eq_true]) | (first | refine iE ?_ ?_ | refine iD ?_ ?_ | refine iQ ?_ ?_ | refine iV ?_ ?_) <;> intro _ | refine And.intro (by omega) ?_ | refine drawn_q ?_ | fail)
      exact fail _ l15
    | true =>
    simp only [Bool.and_eq_true, decide_eq_true_eq] at ha
    have hT' : ∀ j (h : j < p.tl.length), j < i + 1 → grOk p.tl[j].g = true ∧ 0 ≤ p.tl[j].a ∧ p.tl[j].a ≤ 1099511627776 := fun j h hj => by
      by_cases hji : j = i
      · subst hji; exact ⟨hg, ha⟩
      · exact hT j h (by omega)
    by_cases hi0 : i = 0
    · subst hi0
      have e6 : decide (((0 : Nat) : Int) = 0) = true := rfl
      repeat' (first | (simp (disch := omega) only [push_cast, ↓reduceIte, zA, zG, zB, zH, zI, zC, zJ, zK, zL, zD, zE, zF, zM, zN, zO, zP, zQ, reduceCtorEq, not_true_eq_false, not_false_eq_true, e6]) | (first | refine iE ?_ ?_ | refine iD ?_ ?_ | refine iQ ?_ ?_ | refine iV ?_ ?_) <;> intro _ | refine And.intro (by omega) ?_ | refine drawn_q ?_ | fail)
      exact ⟨rfl, 0 + 1, by simp (disch := omega) only [push_cast, ↓reduceIte, zA, zG, zB, zH, zI, zC, zJ, zK, zL, zD, zE, zF, zM, zN, zO, zP, zQ, reduceCtorEq, not_true_eq_false, not_false_eq_true], ⟨by omega, l4.trans l5, hT', fun j h hj => absurd hj (by omega)⟩, by dsimp only; omega⟩
    have e6 : decide ((i : Int) = 0) = false := decide_eq_false (by omega)
    have hi1 : i - 1 < p.tl.length := by omega
    have eix : (i : Int) - 1 = ((i - 1 : Nat) : Int) := by omega
    have p5 := p3.later l5
    have b0' : w5.cell? ⟨kf + 1, 0, none⟩ = some (.slice (some ta) p.tl.length tc) := by
      have := (pdAt (pdLater B2 ((l3.trans l4).trans l5))).1
      rw [htv] at this; exact this
    have h45 := p5.tv
    rw [htv] at h45
    have fb := RecS.get cdC_len h45 hi1
    have kj := p5.tl _ (List.getElem_mem hi1)
    have eti : ((i : Int) - 1).toNat = i - 1 := by omega
    repeat' (first | (simp (disch := omega) only [push_cast, ↓reduceIte, zA, zG, zB, zH, zI, zC, zJ, zK, zL, zD, zE, zF, zM, zN, zO, zP, zQ, reduceCtorEq, not_true_eq_false, not_false_eq_true, e6, b0', fb, eti, addr_add_eq, Nat.zero_add]) | (first | refine iE ?_ ?_ | refine iD ?_ ?_ | refine iQ ?_ ?_ | refine iV ?_ ?_) <;> intro _ | refine And.intro (by omega) ?_ | refine drawn_q ?_ | fail)
    refine vStore_tier p.tl[i - 1] w5 kj ?_
    have l6 := later_alloc w5 (.cells (cdC p.tl[i - 1]).toArray 60)
    have B6 := Blk.new w5 (cdC p.tl[i - 1]).toArray 60
    generalize w5.alloc (.cells (cdC p.tl[i - 1]).toArray 60) = w6 at *
    generalize w5.heap.size = ku at *
    have B56 := B5.chg (Chg.of_later (ks := []) l6) (by simp)
    have c0 : w6.cell? ⟨kt, 0, none⟩ = some (.int .i64 p.tl[i].a) := B56.cell 0
    have c1 : w6.cell? ⟨kt, 1, none⟩ = some (.int .i64 p.tl[i].g) := B56.cell 1
    have c2 : w6.cell? ⟨kt, 2, none⟩ = some p.tl[i].dv := B56.cell 2
    have u0 : w6.cell? ⟨ku, 0, none⟩ = some (.int .i64 p.tl[i - 1].a) := B6.cell 0
    have u1 : w6.cell? ⟨ku, 1, none⟩ = some (.int .i64 p.tl[i - 1].g) := B6.cell 1
    have u2 : w6.cell? ⟨ku, 2, none⟩ = some p.tl[i - 1].dv := B6.cell 2
    repeat' (first | (simp (disch := omega) only [push_cast, ↓reduceIte, zA, zG, zB, zH, zI, zC, zJ, zK, zL, zD, zE, zF, zM, zN, zO, zP, zQ, reduceCtorEq, not_true_eq_false, not_false_eq_true, c1, u1, addr_add_eq, Nat.zero_add]) | (first | refine iE ?_ ?_ | refine iD ?_ ?_ | refine iQ ?_ ?_ | refine iV ?_ ?_) <;> intro _ | refine And.intro (by omega) ?_ | refine drawn_q ?_ | fail)
    refine (rcoarser_c p.tl[i].g p.tl[i - 1].g w6 ki.g kj.g).mono ?_
    rintro _ w0 ⟨rfl, h0⟩; obtain rfl := h0.symm
    repeat' (first | (simp (disch := omega) only [push_cast, ↓reduceIte, zA, zG, zB, zH, zI, zC, zJ, zK, zL, zD, zE, zF, zM, zN, zO, zP, zQ, reduceCtorEq, not_true_eq_false, not_false_eq_true, c2, u2, addr_add_eq, Nat.zero_add]) | (first | refine iE ?_ ?_ | refine iD ?_ ?_ | refine iQ ?_ ?_ | refine iV ?_ ?_) <;> intro _ | refine And.intro (by omega) ?_ | refine drawn_q ?_ | fail)
    refine (dsubset_c p.tl[i].dv p.tl[i - 1].dv p.tl[i].dl p.tl[i - 1].dl w6 (Sl.later ki.dv (l5.trans l6)) (Sl.later kj.dv l6)).mono ?_
    rintro _ w0 ⟨rfl, h0⟩; obtain rfl := h0.symm
    have l16 := l15.trans l6
    cases hco : coB p.tl[i].g p.tl[i - 1].g with
    | false =>
      repeat' (first | (simp (disch := omega) only [push_cast, ↓reduceIte, zA, zG, zB, zH, zI, zC, zJ, zK, zL, zD, zE, zF, zM, zN, zO, zP, zQ, reduceCtorEq, not_true_eq_false, not_false_eq_true]) | (first | refine iE ?_ ?_ | refine iD ?_ ?_ | refine iQ ?_ ?_ | refine iV ?_ ?_) <;> intro _ | refine And.intro (by omega) ?_ | refine drawn_q ?_ | fail)
      exact fail _ l16
    | true =>
    cases hsu : sub p.tl[i - 1].dl 0 p.tl[i].dl with
    | false =>
      repeat' (first | (simp (disch := omega) only [push_cast, ↓reduceIte, zA, zG, zB, zH, zI, zC, zJ, zK, zL, zD, zE, zF, zM, zN, zO, zP, zQ, reduceCtorEq, not_true_eq_false, not_false_eq_true]) | (first | refine iE ?_ ?_ | refine iD ?_ ?_ | refine iQ ?_ ?_ | refine iV ?_ ?_) <;> intro _ | refine And.intro (by omega) ?_ | refine drawn_q ?_ | fail)
      exact fail _ l16
    | true =>
    by_cases hle : p.tl[i].a ≤ p.tl[i - 1].a
    · have e7 : decide (p.tl[i].a ≤ p.tl[i - 1].a) = true := decide_eq_true hle
      repeat' (first | (simp (disch := omega) only [push_cast, ↓reduceIte, zA, zG, zB, zH, zI, zC, zJ, zK, zL, zD, zE, zF, zM, zN, zO, zP, zQ, reduceCtorEq, not_true_eq_false, not_false_eq_true, c0, u0, e7, addr_add_eq, Nat.zero_add]) | (first | refine iE ?_ ?_ | refine iD ?_ ?_ | refine iQ ?_ ?_ | refine iV ?_ ?_) <;> intro _ | refine And.intro (by omega) ?_ | refine drawn_q ?_ | fail)
      exact fail _ l16
    have e7 : decide (p.tl[i].a ≤ p.tl[i - 1].a) = false := decide_eq_false hle
    repeat' (first | (simp (disch := omega) only [push_cast, ↓reduceIte, zA, zG, zB, zH, zI, zC, zJ, zK, zL, zD, zE, zF, zM, zN, zO, zP, zQ, reduceCtorEq, not_true_eq_false, not_false_eq_true, c0, u0, e7, addr_add_eq, Nat.zero_add]) | (first | refine iE ?_ ?_ | refine iD ?_ ?_ | refine iQ ?_ ?_ | refine iV ?_ ?_) <;> intro _ | refine And.intro (by omega) ?_ | refine drawn_q ?_ | fail)
    refine ⟨rfl, i + 1, by simp (disch := omega) only [push_cast, ↓reduceIte, zA, zG, zB, zH, zI, zC, zJ, zK, zL, zD, zE, zF, zM, zN, zO, zP, zQ, reduceCtorEq, not_true_eq_false, not_false_eq_true], ⟨by omega, l4.trans (l5.trans l6), hT', fun j h hj => ?_⟩, by dsimp only; omega⟩
    by_cases hji : j + 1 = i
    · subst hji
      exact ⟨hco, hsu, by have : ¬ p.tl[j + 1].a ≤ p.tl[j].a := hle; omega⟩
    · exact hN j h (by omega)
  have hd2 : decide ((i : Int) < (p.tl.length : Int)) = false := decide_eq_false (by omega)
  have hie : i = p.tl.length := by omega
  repeat' (first | (simp (disch := omega) only [push_cast, ↓reduceIte, zA, zG, zB, zH, zI, zC, zJ, zK, zL, zD, zE, zF, zM, zN, zO, zP, zQ, reduceCtorEq, not_true_eq_false, not_false_eq_true, b0, hd2, addr_add_eq, Nat.zero_add]) | (first | refine iE ?_ ?_ | refine iD ?_ ?_ | refine iQ ?_ ?_ | refine iV ?_ ?_) <;> intro _ | refine And.intro (by omega) ?_ | refine drawn_q ?_ | fail)
  clear b0 b1 b2 hd2
  refine vc_loop W56_1 (fun i : Nat => [(4, .int .i64 0), (14, .int .i64 (i : Int))]) (fun i w' => i ≤ p.pl.length ∧ Later w3 w' ∧ ∀ j (h : j < p.pl.length), j < i → 0 ≤ p.pl[j].a ∧ ∃ h2 : p.pl[j].a.toNat < p.tl.length, coB p.pl[j].g p.tl[p.pl[j].a.toNat].g = true ∧ sub p.tl[p.pl[j].a.toNat].dl 0 p.pl[j].dl = true) (fun i => p.pl.length - i) 0 (by decide) ?_ ?_ ?_
  · simp (disch := omega) only [push_cast, ↓reduceIte, zA, zG, zB, zH, zI, zC, zJ, zK, zL, zD, zE, zF, zM, zN, zO, zP, zQ, reduceCtorEq, not_true_eq_false, not_false_eq_true]
  · exact ⟨Nat.zero_le _, Later.refl _, fun j _ hj => absurd hj (by omega)⟩
  rintro k uu w4 ⟨hk, l5, hP⟩
  have l15 := l14.trans l5
  obtain ⟨b0, b1, b2⟩ := pdAt (pdLater B2 ((l3.trans l4).trans l5))
  rw [htv] at b0
  rw [hpv] at b1
  have p4 := p3.later l5
  have h4t := p4.tv
  rw [htv] at h4t
  by_cases hkk : k < p.pl.length
  · have hd2 : decide ((k : Int) < (p.pl.length : Int)) = true := decide_eq_true (by omega)
    have h4 := p4.pv
    rw [hpv] at h4
    obtain ⟨pa, rfl, fa⟩ := RecS.at cdC_len h4 hkk
    have kp := p4.pl _ (List.getElem_mem hkk)
    have hPk : (0 ≤ p.pl[k].a ∧ ∃ h2 : p.pl[k].a.toNat < p.tl.length, coB p.pl[k].g p.tl[p.pl[k].a.toNat].g = true ∧ sub p.tl[p.pl[k].a.toNat].dl 0 p.pl[k].dl = true) → ∀ j (h : j < p.pl.length), j < k + 1 → 0 ≤ p.pl[j].a ∧ ∃ h2 : p.pl[j].a.toNat < p.tl.length, coB p.pl[j].g p.tl[p.pl[j].a.toNat].g = true ∧ sub p.tl[p.pl[j].a.toNat].dl 0 p.pl[j].dl = true := fun hh j h hj => by
      by_cases hjk : j = k
      · subst hjk; exact hh
      · exact hP j h (by omega)
    repeat' (first | (simp (disch := omega) only [push_cast, ↓reduceIte, zA, zG, zB, zH, zI, zC, zJ, zK, zL, zD, zE, zF, zM, zN, zO, zP, zQ, reduceCtorEq, not_true_eq_false, not_false_eq_true, hd2, b1, fa, addr_add_eq, Nat.zero_add]) | (first | refine iE ?_ ?_ | refine iD ?_ ?_ | refine iQ ?_ ?_ | refine iV ?_ ?_) <;> intro _ | refine And.intro (by omega) ?_ | refine drawn_q ?_ | fail)
    refine vStore_proj p.pl[k] w4 kp ?_
    have l6 := later_alloc w4 (.cells (cdC p.pl[k]).toArray 51)
    have B6 := Blk.new w4 (cdC p.pl[k]).toArray 51
    clear fa
    generalize p.pl[k] = c at *
    generalize w4.alloc (.cells (cdC c).toArray 51) = w6 at *
    generalize w4.heap.size = kt at *
    have c0 : w6.cell? ⟨kt, 0, none⟩ = some (.int .i64 c.a) := B6.cell 0
    have c1 : w6.cell? ⟨kt, 1, none⟩ = some (.int .i64 c.g) := B6.cell 1
    have c2 : w6.cell? ⟨kt, 2, none⟩ = some c.dv := B6.cell 2
    have l16 := l15.trans l6
    by_cases hr : 0 ≤ c.a ∧ c.a < (p.tl.length : Int)
    case neg =>
      repeat' (first | (simp (disch := omega) only [push_cast, ↓reduceIte, zA, zG, zB, zH, zI, zC, zJ, zK, zL, zD, zE, zF, zM, zN, zO, zP, zQ, reduceCtorEq, not_true_eq_false, not_false_eq_true, c0, addr_add_eq, Nat.zero_add]) | (first | refine iE ?_ ?_ | refine iD ?_ ?_ | refine iQ ?_ ?_ | refine iV ?_ ?_) <;> intro _ | refine And.intro (by omega) ?_ | refine drawn_q ?_ | fail)
      all_goals first | exact fail _ l16 | (exfalso; exact hr ⟨by omega, by omega⟩)
    have e1 : decide (c.a < 0) = false := decide_eq_false (by omega)
    have e2 : decide ((p.tl.length : Int) ≤ c.a) = false := decide_eq_false (by omega)
    have hct : c.a.toNat < p.tl.length := by omega
    have p6 := p4.later l6
    have d0 : w6.cell? ⟨kf + 1, 0, none⟩ = some (.slice (some ta) p.tl.length tc) := by
      have := (pdAt (pdLater B2 (((l3.trans l4).trans l5).trans l6))).1
      rw [htv] at this; exact this
    have h6 := p6.tv
    rw [htv] at h6
    have t1 := RecS.cell (j := 1) cdC_len h6 hct rfl
    have t2 := RecS.cell (j := 2) cdC_len h6 hct rfl
    have kq := p6.tl _ (List.getElem_mem hct)
    repeat' (first | (simp (disch := omega) only [push_cast, ↓reduceIte, zA, zG, zB, zH, zI, zC, zJ, zK, zL, zD, zE, zF, zM, zN, zO, zP, zQ, reduceCtorEq, not_true_eq_false, not_false_eq_true, c0, c1, d0, t1, e1, e2, addr_add_eq, Nat.zero_add]) | (first | refine iE ?_ ?_ | refine iD ?_ ?_ | refine iQ ?_ ?_ | refine iV ?_ ?_) <;> intro _ | refine And.intro (by omega) ?_ | refine drawn_q ?_ | fail)
    refine QFn.of hb89 (v := .bool (coB c.g p.tl[c.a.toNat].g)) (fun w' hl => (rcoarser_c c.g p.tl[c.a.toNat].g w' kp.g kq.g).mono fun u w'' hu => ⟨hu.1, by rw [hu.2]; exact Later.refl _⟩) ?_
    repeat' (first | (simp (disch := omega) only [push_cast, ↓reduceIte, zA, zG, zB, zH, zI, zC, zJ, zK, zL, zD, zE, zF, zM, zN, zO, zP, zQ, reduceCtorEq, not_true_eq_false, not_false_eq_true]) | (first | refine iE ?_ ?_ | refine iD ?_ ?_ | refine iQ ?_ ?_ | refine iV ?_ ?_) <;> intro _ | refine And.intro (by omega) ?_ | refine drawn_q ?_ | fail)
    intro w7 l7
    have B7 := B6.chg (Chg.of_later (ks := []) l7) (by simp)
    have c0 : w7.cell? ⟨kt, 0, none⟩ = some (.int .i64 c.a) := B7.cell 0
    have c2 : w7.cell? ⟨kt, 2, none⟩ = some c.dv := B7.cell 2
    have d0 : w7.cell? ⟨kf + 1, 0, none⟩ = some (.slice (some ta) p.tl.length tc) := by
      have := (pdAt (pdLater B2 ((((l3.trans l4).trans l5).trans l6).trans l7))).1
      rw [htv] at this; exact this
    have t2 := RecS.cell (j := 2) cdC_len (h6.later l7) hct rfl
    repeat' (first | (simp (disch := omega) only [push_cast, ↓reduceIte, zA, zG, zB, zH, zI, zC, zJ, zK, zL, zD, zE, zF, zM, zN, zO, zP, zQ, reduceCtorEq, not_true_eq_false, not_false_eq_true, c0, c2, d0, t2, addr_add_eq, Nat.zero_add]) | (first | refine iE ?_ ?_ | refine iD ?_ ?_ | refine iQ ?_ ?_ | refine iV ?_ ?_) <;> intro _ | refine And.intro (by omega) ?_ | refine drawn_q ?_ | fail)
    refine QFn.of hb90 (v := .bool (sub p.tl[c.a.toNat].dl 0 c.dl)) (fun w' hl => (dsubset_c c.dv p.tl[c.a.toNat].dv c.dl p.tl[c.a.toNat].dl w' (Sl.later kp.dv (l6.trans (l7.trans hl))) (Sl.later kq.dv (l7.trans hl))).mono fun u w'' hu => ⟨hu.1, by rw [hu.2]; exact Later.refl _⟩) ?_
    have l17 := l16.trans l7
    cases hco : coB c.g p.tl[c.a.toNat].g with
    | false =>
      repeat' (first | (simp (disch := omega) only [push_cast, ↓reduceIte, zA, zG, zB, zH, zI, zC, zJ, zK, zL, zD, zE, zF, zM, zN, zO, zP, zQ, reduceCtorEq, not_true_eq_false, not_false_eq_true]) | (first | refine iE ?_ ?_ | refine iD ?_ ?_ | refine iQ ?_ ?_ | refine iV ?_ ?_) <;> intro _ | refine And.intro (by omega) ?_ | refine drawn_q ?_ | fail)
      exact fun w' hl => fail _ (l17.trans hl)
    | true =>
    cases hsu : sub p.tl[c.a.toNat].dl 0 c.dl with
    | false =>
      repeat' (first | (simp (disch := omega) only [push_cast, ↓reduceIte, zA, zG, zB, zH, zI, zC, zJ, zK, zL, zD, zE, zF, zM, zN, zO, zP, zQ, reduceCtorEq, not_true_eq_false, not_false_eq_true]) | (first | refine iE ?_ ?_ | refine iD ?_ ?_ | refine iQ ?_ ?_ | refine iV ?_ ?_) <;> intro _ | refine And.intro (by omega) ?_ | refine drawn_q ?_ | fail)
      exact fun w' hl => fail _ (l17.trans hl)
    | true =>
    repeat' (first | (simp (disch := omega) only [push_cast, ↓reduceIte, zA, zG, zB, zH, zI, zC, zJ, zK, zL, zD, zE, zF, zM, zN, zO, zP, zQ, reduceCtorEq, not_true_eq_false, not_false_eq_true]) | (first | refine iE ?_ ?_ | refine iD ?_ ?_ | refine iQ ?_ ?_ | refine iV ?_ ?_) <;> intro _ | refine And.intro (by omega) ?_ | refine drawn_q ?_ | fail)
    exact fun w' hl => ⟨rfl, k + 1, by simp (disch := omega) only [push_cast, ↓reduceIte, zA, zG, zB, zH, zI, zC, zJ, zK, zL, zD, zE, zF, zM, zN, zO, zP, zQ, reduceCtorEq, not_true_eq_false, not_false_eq_true], ⟨by omega, l5.trans (l6.trans (l7.trans hl)), hPk ⟨hr.1, hct, hco, hsu⟩⟩, by dsimp only; omega⟩
  have hd2 : decide ((k : Int) < (p.pl.length : Int)) = false := decide_eq_false (by omega)
  repeat' (first | (simp (disch := omega) only [push_cast, ↓reduceIte, zA, zG, zB, zH, zI, zC, zJ, zK, zL, zD, zE, zF, zM, zN, zO, zP, zQ, reduceCtorEq, not_true_eq_false, not_false_eq_true, b1, b2, hd2, addr_add_eq, Nat.zero_add]) | (first | refine iE ?_ ?_ | refine iD ?_ ?_ | refine iQ ?_ ?_ | refine iV ?_ ?_) <;> intro _ | refine And.intro (by omega) ?_ | refine drawn_q ?_ | fail)
  refine (age_c p.hz w4).mono ?_
  rintro _ w0 ⟨rfl, h0⟩; obtain rfl := h0.symm
  have hn1 : p.tl.length - 1 < p.tl.length := by omega
  have tz := RecS.cell (j := 0) cdC_len h4t hn1 rfl
  rw [addr_add_add, Nat.add_zero] at tz
  have eti : ((p.tl.length : Int) - 1).toNat = p.tl.length - 1 := by omega
  cases ha : (decide (0 ≤ p.hz) && decide (p.hz ≤ 1099511627776)) with
  | false =>
    repeat' (first | (simp (disch := omega) only [push_cast, ↓reduceIte, zA, zG, zB, zH, zI, zC, zJ, zK, zL, zD, zE, zF, zM, zN, zO, zP, zQ, reduceCtorEq, not_true_eq_false, not_false_eq_true]) | (first | refine iE ?_ ?_ | refine iD ?_ ?_ | refine iQ ?_ ?_ | refine iV ?_ ?_) <;> intro _ | refine And.intro (by omega) ?_ | refine drawn_q ?_ | fail)
    all_goals first | exact fun w' hl => fail _ (l15.trans hl) | exact fail _ l15
  | true =>
  simp only [Bool.and_eq_true, decide_eq_true_eq] at ha
  by_cases hle : p.hz ≤ p.tl[p.tl.length - 1].a
  · have e7 : decide (p.hz ≤ p.tl[p.tl.length - 1].a) = true := decide_eq_true hle
    repeat' (first | (simp (disch := omega) only [push_cast, ↓reduceIte, zA, zG, zB, zH, zI, zC, zJ, zK, zL, zD, zE, zF, zM, zN, zO, zP, zQ, reduceCtorEq, not_true_eq_false, not_false_eq_true, b0, b2, tz, eti, e7, addr_add_eq, Nat.zero_add]) | (first | refine iE ?_ ?_ | refine iD ?_ ?_ | refine iQ ?_ ?_ | refine iV ?_ ?_) <;> intro _ | refine And.intro (by omega) ?_ | refine drawn_q ?_ | fail)
    all_goals first | exact fun w' hl => fail _ (l15.trans hl) | exact fail _ l15
  have e7 : decide (p.hz ≤ p.tl[p.tl.length - 1].a) = false := decide_eq_false hle
  have ok : PlOk d p := ⟨⟨n1, n2, n3⟩, fun _ => ⟨hz0, hd0⟩, fun j h => hT j h (by omega), fun j h => hN j h (by omega), fun j h => hP j h (by omega), ha.1, ha.2, fun _ => by omega⟩
  repeat' (first | (simp (disch := omega) only [push_cast, ↓reduceIte, zA, zG, zB, zH, zI, zC, zJ, zK, zL, zD, zE, zF, zM, zN, zO, zP, zQ, reduceCtorEq, not_true_eq_false, not_false_eq_true, b0, b2, tz, eti, e7, addr_add_eq, Nat.zero_add]) | (first | refine iE ?_ ?_ | refine iD ?_ ?_ | refine iQ ?_ ?_ | refine iV ?_ ?_) <;> intro _ | refine And.intro (by omega) ?_ | refine drawn_q ?_ | fail)
  all_goals first | exact fun w' hl => ⟨⟨0, rfl, fun _ => ok⟩, l15.trans hl⟩ | exact ⟨⟨0, rfl, fun _ => ok⟩, l15⟩
end Go.Proofs.Ytnofalhkapmcnaa
end
section
set_option linter.unusedSimpArgs false
namespace Go.Proofs.Ytnofalhkapmcnaa
open Go.Vc Go.Key
set_option maxRecDepth 100000
def fnB (c : UInt8) : Bool := (97 ≤ c && c ≤ 122) || (48 ≤ c && c ≤ 57) || c == 46
def fnOk (s : ByteArray) : Bool := s.data.toList.all fnB && decide (1 ≤ s.size ∧ s.size ≤ 12)
theorem fnB_iff (c : UInt8) : fnB c = true ↔ (97 ≤ c.toNat ∧ c.toNat ≤ 122) ∨ (48 ≤ c.toNat ∧ c.toNat ≤ 57) ∨ c.toNat = 46 := by
  unfold fnB
  simp only [Bool.or_eq_true, Bool.and_eq_true, decide_eq_true_eq, beq_iff_eq, UInt8.le_iff_toNat_le]
  have e : (c = 46) ↔ c.toNat = 46 := ⟨fun h => by rw [h]; rfl, fun h => UInt8.toNat_inj.1 h⟩
  rw [e]
  constructor
  · rintro ((h | h) | h)
    · exact .inl h
    · exact .inr (.inl h)
    · exact .inr (.inr h)
  · rintro (h | h | h)
    · exact .inl (.inl h)
    · exact .inl (.inr h)
    · exact .inr h
theorem fname_c (s : ByteArray) (w : World) (hs : s.size ≤ 9223372036854775807) : FnC Try.prog 92 #[.string s] w fun r w' => r = .bool (fnOk s) ∧ w' = w := by
  have hall : s.data.toList.all fnB = true ↔ ∀ i (h : i < s.size), fnB s[i] = true := by
    rw [List.all_eq_true]
    constructor
    · intro h i hi
      have e : s[i] = s.data.toList[i]'(by simpa using hi) := rfl
      rw [e]
      exact h _ (List.getElem_mem _)
    · intro h b hb
      obtain ⟨i, hi, rfl⟩ := List.getElem_of_mem hb
      exact h i (by simpa using hi)
  refine enter92 _ ?_
  unfold B92
  repeat' (first | (simp (disch := omega) only [push_cast, ↓reduceIte, zA, zG, zB, zH, zI, zC, zJ, zK, zL, zD, zE, zF, zM, zN, zO, zP, zQ, reduceCtorEq, not_true_eq_false, not_false_eq_true]) | (first | refine iE ?_ ?_ | refine iD ?_ ?_ | refine iQ ?_ ?_ | refine iV ?_ ?_) <;> intro _ | refine And.intro (by omega) ?_ | refine drawn_q ?_ | fail)
  refine vc_loop W92_0 (fun i : Nat => [(2, .bool false), (3, .int .i64 (i : Int))])
    (fun i w' => i ≤ s.size ∧ w' = w ∧ ∀ j (h : j < s.size), j < i → fnB s[j] = true) (fun i => s.size - i) 0 (by decide) ?_ ?_ ?_
  · simp (disch := omega) only [push_cast, ↓reduceIte, zA, zG, zB, zH, zI, zC, zJ, zK, zL, zD, zE, zF, zM, zN, zO, zP, zQ, reduceCtorEq, not_true_eq_false, not_false_eq_true]
  · exact ⟨by omega, rfl, fun j _ hj => absurd hj (Nat.not_lt_zero _)⟩
  rintro i uu w0 ⟨hi, h0, hA⟩
  obtain rfl := h0.symm
  by_cases hlt : i < s.size
  · have hd : decide ((i : Int) < (s.size : Int)) = true := decide_eq_true (by omega)
    have hg : s[i]? = some s[i] := getElem?_pos s i hlt
    by_cases hv : fnB s[i] = true
    · have hv' := (fnB_iff _).1 hv
      generalize hc : s[i].toNat = c at *
      repeat' (first | (simp (disch := omega) only [push_cast, ↓reduceIte, zA, zG, zB, zH, zI, zC, zJ, zK, zL, zD, zE, zF, zM, zN, zO, zP, zQ, reduceCtorEq, not_true_eq_false, not_false_eq_true, hd, hg, hc]) | (first | refine iE ?_ ?_ | refine iD ?_ ?_ | refine iQ ?_ ?_ | refine iV ?_ ?_) <;> intro _ | refine And.intro (by omega) ?_ | refine drawn_q ?_ | fail)
      all_goals first
        | (exfalso; omega)
        | (refine ⟨rfl, i + 1, by simp (disch := omega) only [push_cast, ↓reduceIte, zA, zG, zB, zH, zI, zC, zJ, zK, zL, zD, zE, zF, zM, zN, zO, zP, zQ, reduceCtorEq, not_true_eq_false, not_false_eq_true], ⟨by omega, rfl, fun j hj hji => ?_⟩, by dsimp only; omega⟩
           by_cases h : j < i
           · exact hA j hj h
           · have : j = i := by omega
             subst this
             exact hv)
    · have hno : fnOk s = false := by
        unfold fnOk
        cases h : s.data.toList.all fnB with
        | false => rfl
        | true => exact absurd (hall.1 h i hlt) hv
      have hv' : ¬ ((97 ≤ s[i].toNat ∧ s[i].toNat ≤ 122) ∨ (48 ≤ s[i].toNat ∧ s[i].toNat ≤ 57) ∨ s[i].toNat = 46) := fun h => hv ((fnB_iff _).2 h)
      generalize hc : s[i].toNat = c at *
      repeat' (first | (simp (disch := omega) only [push_cast, ↓reduceIte, zA, zG, zB, zH, zI, zC, zJ, zK, zL, zD, zE, zF, zM, zN, zO, zP, zQ, reduceCtorEq, not_true_eq_false, not_false_eq_true, hd, hg, hc]) | (first | refine iE ?_ ?_ | refine iD ?_ ?_ | refine iQ ?_ ?_ | refine iV ?_ ?_) <;> intro _ | refine And.intro (by omega) ?_ | refine drawn_q ?_ | fail)
      all_goals first
        | (exfalso; omega)
        | exact ⟨by rw [hno], rfl⟩
        | (rw [hno])
  · have hd : decide ((i : Int) < (s.size : Int)) = false := decide_eq_false (by omega)
    have hy : fnOk s = decide (1 ≤ s.size ∧ s.size ≤ 12) := by
      unfold fnOk
      rw [hall.2 fun j hj => hA j hj (by omega), Bool.true_and]
    rw [hy]
    by_cases h1 : 1 ≤ s.size
    · have hd1 : decide ((1 : Int) ≤ (s.size : Int)) = true := decide_eq_true (by omega)
      have hd2 : decide ((s.size : Int) ≤ 12) = decide (1 ≤ s.size ∧ s.size ≤ 12) := decide_eq_decide.2 (by omega)
      repeat' (first | (simp (disch := omega) only [push_cast, ↓reduceIte, zA, zG, zB, zH, zI, zC, zJ, zK, zL, zD, zE, zF, zM, zN, zO, zP, zQ, reduceCtorEq, not_true_eq_false, not_false_eq_true, hd, hd1, hd2]) | (first | refine iE ?_ ?_ | refine iD ?_ ?_ | refine iQ ?_ ?_ | refine iV ?_ ?_) <;> intro _ | refine And.intro (by omega) ?_ | refine drawn_q ?_ | fail)
    · have hd1 : decide ((1 : Int) ≤ (s.size : Int)) = false := decide_eq_false (by omega)
      have hd2 : decide (1 ≤ s.size ∧ s.size ≤ 12) = false := decide_eq_false (by omega)
      repeat' (first | (simp (disch := omega) only [push_cast, ↓reduceIte, zA, zG, zB, zH, zI, zC, zJ, zK, zL, zD, zE, zF, zM, zN, zO, zP, zQ, reduceCtorEq, not_true_eq_false, not_false_eq_true, hd, hd1, hd2]) | (first | refine iE ?_ ?_ | refine iD ?_ ?_ | refine iQ ?_ ?_ | refine iV ?_ ?_) <;> intro _ | refine And.intro (by omega) ?_ | refine drawn_q ?_ | fail)
end Go.Proofs.Ytnofalhkapmcnaa
end
section
set_option linter.unusedSimpArgs false
namespace Go.Proofs.Ytnofalhkapmcnaa
open Go.Vc Go.Key Go.Cub
set_option maxRecDepth 100000
structure FlOk (p : PD) (s : SD) : Prop where
  rows : 0 ≤ s.rows ∧ s.rows ≤ 65536
  tier : 0 ≤ s.tier ∧ s.tier < (p.tl.length : Int)
  proj : -1 ≤ s.proj ∧ s.proj < (p.pl.length : Int)
  of : s.proj ≠ -1 → ∃ h : s.proj.toNat < p.pl.length, p.pl[s.proj.toNat].a = s.tier
set_option maxHeartbeats 2000000 in
theorem file_c (p : PD) (s : SD) (w : World) (hp : p.Ok w) (hs : s.Ok) : FnC Try.prog 91 #[.agg (pdC p).toArray, .agg (sdC s).toArray] w fun v w' => (∃ b : Bool, v = .bool b ∧ (b = true → FlOk p s)) ∧ Later w w' := by
  obtain ⟨to, tc, htv, ht1, ht2⟩ := RecS.slice hp.tv
  obtain ⟨po, pc, hpv, hp1, hp2⟩ := RecS.slice hp.pv
  have fail : ∀ (w' : World), Later w w' → (∃ b : Bool, Value.bool false = .bool b ∧ (b = true → FlOk p s)) ∧ Later w w' := fun w' hl => ⟨⟨false, rfl, fun h => by cases h⟩, hl⟩
  refine enter91 _ _ ?_
  unfold B91
  have eca : (Value.agg (pdC p).toArray).cells = (pdC p).toArray := rfl
  have ecb : (Value.agg (sdC s).toArray).cells = (sdC s).toArray := rfl
  have l1 := later_alloc w (.cells (pdC p).toArray 28)
  have s1 : (w.alloc (.cells (pdC p).toArray 28)).heap.size = w.heap.size + 1 := World.size_alloc _ _
  have B1 := Blk.new w (pdC p).toArray 28
  have l2 := later_alloc (w.alloc (.cells (pdC p).toArray 28)) (.cells (sdC s).toArray 57)
  have B2 := Blk.new (w.alloc (.cells (pdC p).toArray 28)) (sdC s).toArray 57
  rw [s1] at B2
  have B1 := pdLater B1 l2
  repeat' (first | (simp (disch := omega) only [push_cast, ↓reduceIte, zA, zG, zB, zH, zI, zC, zJ, zK, zL, zD, zE, zF, zM, zN, zO, zP, zQ, reduceCtorEq, not_true_eq_false, not_false_eq_true, eca, ecb, s1]) | (first | refine iE ?_ ?_ | refine iD ?_ ?_ | refine iQ ?_ ?_ | refine iV ?_ ?_) <;> intro _ | refine And.intro (by omega) ?_ | refine drawn_q ?_ | fail)
  have l12 := l1.trans l2
  generalize (w.alloc (.cells (pdC p).toArray 28)).alloc (.cells (sdC s).toArray 57) = w1 at *
  generalize hkf : w.heap.size = kf at *
  have p1 := hp.later l12
  obtain ⟨a0, a1, a2⟩ := pdAt B1
  rw [htv] at a0
  rw [hpv] at a1
  have c0 : w1.cell? ⟨kf + 1, 0, none⟩ = some (.string s.name) := B2.cell 0
  have c1 : w1.cell? ⟨kf + 1, 1, none⟩ = some (.int .i64 s.tier) := B2.cell 1
  have c2 : w1.cell? ⟨kf + 1, 2, none⟩ = some (.int .i64 s.proj) := B2.cell 2
  have c3 : w1.cell? ⟨kf + 1, 3, none⟩ = some (.int .i64 s.rows) := B2.cell 3
  repeat' (first | (simp (disch := omega) only [push_cast, ↓reduceIte, zA, zG, zB, zH, zI, zC, zJ, zK, zL, zD, zE, zF, zM, zN, zO, zP, zQ, reduceCtorEq, not_true_eq_false, not_false_eq_true, c0, addr_add_eq, Nat.zero_add]) | (first | refine iE ?_ ?_ | refine iD ?_ ?_ | refine iQ ?_ ?_ | refine iV ?_ ?_) <;> intro _ | refine And.intro (by omega) ?_ | refine drawn_q ?_ | fail)
  refine (fname_c s.name w1 (Nat.le_trans hs.name (by unfold Bz; omega))).mono ?_
  rintro _ w0 ⟨rfl, h0⟩; obtain rfl := h0.symm
  cases hF : fnOk s.name with
  | false =>
    repeat' (first | (simp (disch := omega) only [push_cast, ↓reduceIte, zA, zG, zB, zH, zI, zC, zJ, zK, zL, zD, zE, zF, zM, zN, zO, zP, zQ, reduceCtorEq, not_true_eq_false, not_false_eq_true, c0, addr_add_eq, Nat.zero_add]) | (first | refine iE ?_ ?_ | refine iD ?_ ?_ | refine iQ ?_ ?_ | refine iV ?_ ?_) <;> intro _ | refine And.intro (by omega) ?_ | refine drawn_q ?_ | fail)
    all_goals first | exact fail _ l12 | trace_state
  | true =>
  by_cases n1 : s.name = (⟨#[109, 97, 110, 105, 102, 101, 115, 116]⟩ : ByteArray)
  case pos =>
    have e1 := decide_eq_true n1
    repeat' (first | (simp (disch := omega) only [push_cast, ↓reduceIte, zA, zG, zB, zH, zI, zC, zJ, zK, zL, zD, zE, zF, zM, zN, zO, zP, zQ, reduceCtorEq, not_true_eq_false, not_false_eq_true, c0, e1, addr_add_eq, Nat.zero_add]) | (first | refine iE ?_ ?_ | refine iD ?_ ?_ | refine iQ ?_ ?_ | refine iV ?_ ?_) <;> intro _ | refine And.intro (by omega) ?_ | refine drawn_q ?_ | fail)
    all_goals first | exact fail _ l12 | trace_state
  have e1 := decide_eq_false n1
  by_cases n2 : s.name = (⟨#[109, 97, 110, 105, 102, 101, 115, 116, 46, 110, 101, 119]⟩ : ByteArray)
  case pos =>
    have e2 := decide_eq_true n2
    repeat' (first | (simp (disch := omega) only [push_cast, ↓reduceIte, zA, zG, zB, zH, zI, zC, zJ, zK, zL, zD, zE, zF, zM, zN, zO, zP, zQ, reduceCtorEq, not_true_eq_false, not_false_eq_true, c0, e1, e2, addr_add_eq, Nat.zero_add]) | (first | refine iE ?_ ?_ | refine iD ?_ ?_ | refine iQ ?_ ?_ | refine iV ?_ ?_) <;> intro _ | refine And.intro (by omega) ?_ | refine drawn_q ?_ | fail)
    all_goals first | exact fail _ l12 | trace_state
  have e2 := decide_eq_false n2
  by_cases hr : 0 ≤ s.rows ∧ s.rows ≤ 65536
  case neg =>
    by_cases hr0 : s.rows < 0
    · have r1 := decide_eq_true hr0
      repeat' (first | (simp (disch := omega) only [push_cast, ↓reduceIte, zA, zG, zB, zH, zI, zC, zJ, zK, zL, zD, zE, zF, zM, zN, zO, zP, zQ, reduceCtorEq, not_true_eq_false, not_false_eq_true, c0, c3, e1, e2, r1, addr_add_eq, Nat.zero_add]) | (first | refine iE ?_ ?_ | refine iD ?_ ?_ | refine iQ ?_ ?_ | refine iV ?_ ?_) <;> intro _ | refine And.intro (by omega) ?_ | refine drawn_q ?_ | fail)
      all_goals first | exact fail _ l12 | trace_state
    · have r1 := decide_eq_false hr0
      have r2 : decide (65536 < s.rows) = true := decide_eq_true (by omega)
      repeat' (first | (simp (disch := omega) only [push_cast, ↓reduceIte, zA, zG, zB, zH, zI, zC, zJ, zK, zL, zD, zE, zF, zM, zN, zO, zP, zQ, reduceCtorEq, not_true_eq_false, not_false_eq_true, c0, c3, e1, e2, r1, r2, addr_add_eq, Nat.zero_add]) | (first | refine iE ?_ ?_ | refine iD ?_ ?_ | refine iQ ?_ ?_ | refine iV ?_ ?_) <;> intro _ | refine And.intro (by omega) ?_ | refine drawn_q ?_ | fail)
      all_goals first | exact fail _ l12 | trace_state
  have r1 : decide (s.rows < 0) = false := decide_eq_false (by omega)
  have r2 : decide (65536 < s.rows) = false := decide_eq_false (by omega)
  by_cases ht : (0 ≤ s.tier ∧ s.tier < (p.tl.length : Int)) ∧ -1 ≤ s.proj ∧ s.proj < (p.pl.length : Int)
  case neg =>
    by_cases h3 : s.tier < 0
    · have r3 := decide_eq_true h3
      repeat' (first | (simp (disch := omega) only [push_cast, ↓reduceIte, zA, zG, zB, zH, zI, zC, zJ, zK, zL, zD, zE, zF, zM, zN, zO, zP, zQ, reduceCtorEq, not_true_eq_false, not_false_eq_true, c0, c1, c2, c3, a0, a1, e1, e2, r1, r2, r3, addr_add_eq, Nat.zero_add]) | (first | refine iE ?_ ?_ | refine iD ?_ ?_ | refine iQ ?_ ?_ | refine iV ?_ ?_) <;> intro _ | refine And.intro (by omega) ?_ | refine drawn_q ?_ | fail)
      all_goals first | exact fail _ l12 | trace_state
    have r3 := decide_eq_false h3
    by_cases h4 : (p.tl.length : Int) ≤ s.tier
    · have r4 := decide_eq_true h4
      repeat' (first | (simp (disch := omega) only [push_cast, ↓reduceIte, zA, zG, zB, zH, zI, zC, zJ, zK, zL, zD, zE, zF, zM, zN, zO, zP, zQ, reduceCtorEq, not_true_eq_false, not_false_eq_true, c0, c1, c2, c3, a0, a1, e1, e2, r1, r2, r3, r4, addr_add_eq, Nat.zero_add]) | (first | refine iE ?_ ?_ | refine iD ?_ ?_ | refine iQ ?_ ?_ | refine iV ?_ ?_) <;> intro _ | refine And.intro (by omega) ?_ | refine drawn_q ?_ | fail)
      all_goals first | exact fail _ l12 | trace_state
    have r4 := decide_eq_false h4
    by_cases h5 : s.proj < -1
    · have r5 := decide_eq_true h5
      repeat' (first | (simp (disch := omega) only [push_cast, ↓reduceIte, zA, zG, zB, zH, zI, zC, zJ, zK, zL, zD, zE, zF, zM, zN, zO, zP, zQ, reduceCtorEq, not_true_eq_false, not_false_eq_true, c0, c1, c2, c3, a0, a1, e1, e2, r1, r2, r3, r4, r5, addr_add_eq, Nat.zero_add]) | (first | refine iE ?_ ?_ | refine iD ?_ ?_ | refine iQ ?_ ?_ | refine iV ?_ ?_) <;> intro _ | refine And.intro (by omega) ?_ | refine drawn_q ?_ | fail)
      all_goals first | exact fail _ l12 | trace_state
    have r5 := decide_eq_false h5
    have r6 : decide ((p.pl.length : Int) ≤ s.proj) = true := decide_eq_true (by omega)
    repeat' (first | (simp (disch := omega) only [push_cast, ↓reduceIte, zA, zG, zB, zH, zI, zC, zJ, zK, zL, zD, zE, zF, zM, zN, zO, zP, zQ, reduceCtorEq, not_true_eq_false, not_false_eq_true, c0, c1, c2, c3, a0, a1, e1, e2, r1, r2, r3, r4, r5, r6, addr_add_eq, Nat.zero_add]) | (first | refine iE ?_ ?_ | refine iD ?_ ?_ | refine iQ ?_ ?_ | refine iV ?_ ?_) <;> intro _ | refine And.intro (by omega) ?_ | refine drawn_q ?_ | fail)
    all_goals first | exact fail _ l12 | trace_state
  have r3 : decide (s.tier < 0) = false := decide_eq_false (by omega)
  have r4 : decide ((p.tl.length : Int) ≤ s.tier) = false := decide_eq_false (by omega)
  have r5 : decide (s.proj < -1) = false := decide_eq_false (by omega)
  have r6 : decide ((p.pl.length : Int) ≤ s.proj) = false := decide_eq_false (by omega)
  by_cases hq : s.proj = -1
  · have r7 : decide (s.proj = -1) = true := decide_eq_true hq
    repeat' (first | (simp (disch := omega) only [push_cast, ↓reduceIte, zA, zG, zB, zH, zI, zC, zJ, zK, zL, zD, zE, zF, zM, zN, zO, zP, zQ, reduceCtorEq, not_true_eq_false, not_false_eq_true, c0, c1, c2, c3, a0, a1, e1, e2, r1, r2, r3, r4, r5, r6, r7, addr_add_eq, Nat.zero_add]) | (first | refine iE ?_ ?_ | refine iD ?_ ?_ | refine iQ ?_ ?_ | refine iV ?_ ?_) <;> intro _ | refine And.intro (by omega) ?_ | refine drawn_q ?_ | fail)
    all_goals first | exact fail _ l12 | (refine fun w' hl => ⟨⟨true, rfl, fun _ => ?_⟩, l12.trans hl⟩; exact FlOk.mk hr ht.1 ht.2 (fun h => absurd hq h)) | trace_state
  have r7 : decide (s.proj = -1) = false := decide_eq_false hq
  have hpl : s.proj.toNat < p.pl.length := by omega
  have h4 := p1.pv
  rw [hpv] at h4
  obtain ⟨pa, rfl, _⟩ := RecS.at cdC_len h4 hpl
  have t0 := RecS.cell (j := 0) cdC_len h4 hpl rfl
  rw [addr_add_add, Nat.add_zero] at t0
  repeat' (first | (simp (disch := omega) only [push_cast, ↓reduceIte, zA, zG, zB, zH, zI, zC, zJ, zK, zL, zD, zE, zF, zM, zN, zO, zP, zQ, reduceCtorEq, not_true_eq_false, not_false_eq_true, c0, c1, c2, c3, a0, a1, t0, e1, e2, r1, r2, r3, r4, r5, r6, r7, addr_add_eq, Nat.zero_add]) | (first | refine iE ?_ ?_ | refine iD ?_ ?_ | refine iQ ?_ ?_ | refine iV ?_ ?_) <;> intro _ | refine And.intro (by omega) ?_ | refine drawn_q ?_ | fail)
  all_goals first | exact fail _ l12 | (refine fun w' hl => ⟨⟨decide (p.pl[s.proj.toNat].a = s.tier), rfl, fun h => ?_⟩, l12.trans hl⟩; exact FlOk.mk hr ht.1 ht.2 (fun _ => ⟨hpl, of_decide_eq_true h⟩)) | trace_state
end Go.Proofs.Ytnofalhkapmcnaa
end
section
set_option linter.unusedSimpArgs false
namespace Go.Vc
open Go.RowKit
def PtW (w0 : World) (e : TypeId) (cs : Array Value) (v : Value) (w : World) : Prop := ∃ b, v = .pointer (some ⟨b, 0, none⟩) ∧ w0.heap.size ≤ b ∧ Blk w b cs e
theorem stb_ptw (w0 w1 : World) (e : TypeId) (cs : Array Value) : Stb w1 (PtW w0 e cs) := by
  rintro v w w' _ hl ⟨b, rfl, hb, h⟩
  exact ⟨b, rfl, hb, h.chg (Chg.of_later (ks := []) hl) (by simp)⟩
theorem nP_bld {P : Program} {t : TypeId} {ps : Array (Nat × Operand)} {ty : TypeId} {σ : Env} {w : World} {Kv : Value → Prop} {Kn : (Value → World → Prop) → Prop} (v : Value) (h : ∀ w', vBuild P t (ps.map fun (i, x) => (i, ev σ x)) (fun u w'' => u = v ∧ w'' = w') w') (hk : Kv v) : nPlain P (.build t ps) ty σ w Kv Kn := by
  show qX P (.build t ps) ty σ w Kv
  refine ⟨v, fun w' _ => ?_, hk⟩
  have h1 := h w'
  unfold vBuild at h1
  show qUp P w' v ((val (Instr.build t (ps.map fun (i, x) => (i, ev σ x)))).run P w')
  have e : ∀ s : Sem Value, (val s).run P w' = (s.run P w').andThen fun v w' => .ok (.value v) w' := fun s => by simp [val]
  rw [e] at h1 ⊢
  cases hs : (Instr.build t (ps.map fun (i, x) => (i, ev σ x))).run P w' with
  | ok u w'' => rw [hs] at h1; exact ⟨h1.2, h1.1⟩
  | _ => rw [hs] at h1; exact h1.elim
/-- A plan. -/
structure PN where
  fr : Int
  to : Int
  tier : Int
  proj : Int
  rows : Int
deriving DecidableEq
def pnC (p : PN) : List Value := [.int .i64 p.fr, .int .i64 p.to, .int .i64 p.tier, .int .i64 p.proj, .int .i64 p.rows]
theorem pnC_len (p : PN) : (pnC p).length = 5 := rfl
theorem pnC_one (p : PN) : ∀ u ∈ pnC p, u.oneCell' = true := by
  intro u hu
  simp only [pnC, List.mem_cons, List.not_mem_nil, or_false] at hu
  rcases hu with rfl | rfl | rfl | rfl | rfl <;> rfl
/-- Up to where the tier i has rows of a query. -/
def uptoI (to : Int) (el : List Int) : Nat → Int
  | 0 => to
  | i + 1 => min to (el.getD i 0)
def strI (fr to : Int) (el : List Int) (i : Nat) : PN := ⟨max fr (el.getD i 0), uptoI to el i, (i : Int), -1, 0⟩
def strL (fr to : Int) (el : List Int) (n : Nat) : List PN := ((List.range n).map (strI fr to el)).filter fun x => decide (x.fr < x.to)
theorem strL_succ (fr to : Int) (el : List Int) (n : Nat) : strL fr to el (n + 1) = strL fr to el n ++ (if (strI fr to el n).fr < (strI fr to el n).to then [strI fr to el n] else []) := by
  unfold strL
  rw [List.range_succ, List.map_append, List.filter_append]
  congr 1
  by_cases h : (strI fr to el n).fr < (strI fr to el n).to
  · rw [if_pos h]; simp [h]
  · rw [if_neg h]; simp [h]
theorem strL_len (fr to : Int) (el : List Int) (n : Nat) : (strL fr to el n).length ≤ n := by
  unfold strL
  have := List.length_filter_le (fun x : PN => decide (x.fr < x.to)) ((List.range n).map (strI fr to el))
  simpa using this
/-- Edges that fall. -/
def Fall (el : List Int) : Prop := ∀ i, i + 1 < el.length → el.getD (i + 1) 0 ≤ el.getD i 0
theorem upto_step {to : Int} {el : List Int} (h : Fall el) {i : Nat} (hi : i < el.length) : min (uptoI to el i) (el.getD i 0) = uptoI to el (i + 1) := by
  cases i with
  | zero => rfl
  | succ i =>
    have := h i hi
    show min (min to (el.getD i 0)) (el.getD (i + 1) 0) = min to (el.getD (i + 1) 0)
    omega
end Go.Vc
namespace Go.Proofs.Ytnofalhkapmcnaa
open Go.Vc Go.Key
set_option maxRecDepth 100000
abbrev OwnN (w : World) (B : Nat) (v : Value) (l : List PN) : Prop := OwnR pnC 5 w B 49 v l
theorem vAppend_pn {w : World} {K : Value → World → Prop} {ty : TypeId} {B : Nat} {v x : Value} {l r : List PN} (hown : OwnN w B v l) (hx : RecS pnC 5 w x r) (h63 : l.length + r.length ≤ 1000000000) (hbase : B ≤ w.heap.size)
    (hK : ∀ v' w', OwnN w' B v' (l ++ r) → w.grownBy w' v.ownBlock → (v'.ownBlock = v.ownBlock ∨ v'.ownBlock = some w.heap.size) → K v' w') : vAppend Try.prog #[45, 45] ty #[v, x] K w :=
  vAppend_rs pnC_len pnC_one Try.underlying45 ti49 rfl (by decide) hown hx h63 (by decide) hbase hK
@[push_cast] theorem bsl_pn {K : Value → World → Prop} {w : World} (x : PN) : vBuildSlice Try.prog 45 1 #[(0, .agg (pnC x).toArray)] K w = K (.slice (some ⟨w.heap.size, 0, none⟩) 1 1) (w.alloc (.cells (pnC x).toArray 49)) := bsl45_1_Codes7A _ _ _ _ _
theorem int_at {w : World} {o : Option Addr} {n c : Nat} {l : List Int} (h : Sl w (.slice o n c) (l.map (Value.int .i64))) {i : Nat} (hi : i < l.length) : ∃ a, o = some a ∧ w.cell? (a.add i) = some (.int .i64 (l.getD i 0)) := by
  obtain ⟨a, rfl⟩ := Sl.some h hi
  refine ⟨a, rfl, Sl.at h ?_⟩
  simp [hi, List.getD_eq_getElem?_getD]
theorem qdc_at {w : World} {k : Nat} {q : QD} (B : Blk w k (qdC q).toArray 42) : w.cell? ⟨k, 1, none⟩ = some (.int .i64 q.fr) ∧ w.cell? ⟨k, 2, none⟩ = some (.int .i64 q.to) ∧ w.cell? ⟨k, 3, none⟩ = some (.int .i64 q.ev) := ⟨B.cell 1, B.cell 2, B.cell 3⟩
set_option maxHeartbeats 2000000 in
theorem stretches_c (p : PD) (ev : Value) (el : List Int) (q : QD) (w : World) (hp : p.Ok w) (he : Sl w ev (el.map (Value.int .i64))) (hq : q.Ok w) (hel : el.length = p.tl.length) (hF : Fall el) (hpl : p.tl.length ≤ 100) : FnC Try.prog 14 #[.agg (pdC p).toArray, ev, .agg (qdC q).toArray] w fun v w' => OwnN w' w.heap.size v (strL q.fr q.to el p.tl.length) ∧ Later w w' := by
  obtain ⟨to, tc, htv, ht1, ht2⟩ := RecS.slice hp.tv
  obtain ⟨eo, ec, rfl, he1, he2, he, he0⟩ := he.openM
  rw [hel] at he
  refine enter14 _ _ _ ?_
  unfold B14
  have eca : (Value.agg (pdC p).toArray).cells = (pdC p).toArray := rfl
  have ecb : (Value.agg (qdC q).toArray).cells = (qdC q).toArray := rfl
  have l1 := later_alloc w (.cells (pdC p).toArray 28)
  have s1 : (w.alloc (.cells (pdC p).toArray 28)).heap.size = w.heap.size + 1 := World.size_alloc _ _
  have B1 := Blk.new w (pdC p).toArray 28
  have l2 := later_alloc (w.alloc (.cells (pdC p).toArray 28)) (.cells (qdC q).toArray 42)
  have B2 := Blk.new (w.alloc (.cells (pdC p).toArray 28)) (qdC q).toArray 42
  rw [s1] at B2
  have B1 := pdLater B1 l2
  repeat' (first | (simp (disch := omega) only [push_cast, ↓reduceIte, zA, zG, zB, zH, zI, zC, zJ, zK, zL, zD, zE, zF, zM, zN, zO, zP, zQ, reduceCtorEq, not_true_eq_false, not_false_eq_true, eca, ecb, s1, hel]) | (first | refine iE ?_ ?_ | refine iD ?_ ?_ | refine iQ ?_ ?_ | refine iV ?_ ?_) <;> intro _ | refine And.intro (by omega) ?_ | fail)
  have l12 := l1.trans l2
  generalize (w.alloc (.cells (pdC p).toArray 28)).alloc (.cells (qdC q).toArray 42) = w1 at *
  generalize hkf : w.heap.size = kf at *
  obtain ⟨a0, _, _⟩ := pdAt B1
  rw [htv] at a0
  obtain ⟨b1, b2, b3⟩ := qdc_at B2
  repeat' (first | (simp (disch := omega) only [push_cast, ↓reduceIte, zA, zG, zB, zH, zI, zC, zJ, zK, zL, zD, zE, zF, zM, zN, zO, zP, zQ, reduceCtorEq, not_true_eq_false, not_false_eq_true, a0, b2, addr_add_eq, Nat.zero_add]) | (first | refine iE ?_ ?_ | refine iD ?_ ?_ | refine iQ ?_ ?_ | refine iV ?_ ?_) <;> intro _ | refine And.intro (by omega) ?_ | fail)
  have hb : kf ≤ w1.heap.size := by rw [← hkf]; exact l12.size
  refine vc_loop W14_0 (fun p : Nat × Value => [(7, p.2), (8, .int .i64 (uptoI q.to el p.1)), (16, .int .i64 (p.1 : Int))]) (fun p1 w' => p1.1 ≤ p.tl.length ∧ Later w1 w' ∧ OwnN w' w1.heap.size p1.2 (strL q.fr q.to el p1.1)) (fun p1 => p.tl.length - p1.1) (0, .slice none 0 0) (by decide) ?_ ?_ ?_
  · simp (disch := omega) only [push_cast, ↓reduceIte, zA, zG, zB, zH, zI, zC, zJ, zK, zL, zD, zE, zF, zM, zN, zO, zP, zQ, reduceCtorEq, not_true_eq_false, not_false_eq_true]
    try rfl
  · exact ⟨Nat.zero_le _, Later.refl _, OwnR.nil _ _ _⟩
  rintro ⟨i, x⟩ uu w2 ⟨hi, l2, ho⟩
  dsimp only at hi ho ⊢
  obtain ⟨c1, c2, c3⟩ := qdc_at (qdLater B2 l2)
  by_cases hik : i < p.tl.length
  · have hd2 : decide ((i : Int) < (p.tl.length : Int)) = true := decide_eq_true (by omega)
    obtain ⟨a, rfl, fa⟩ := int_at (l := el) (by rw [← hel] at he; exact Sl.later he (l12.trans l2)) (i := i) (by omega)
    have hus := upto_step (to := q.to) hF (i := i) (by omega)
    repeat' (first | (simp (disch := omega) only [push_cast, ↓reduceIte, zA, zG, zB, zH, zI, zC, zJ, zK, zL, zD, zE, zF, zM, zN, zO, zP, zQ, reduceCtorEq, not_true_eq_false, not_false_eq_true, hd2, hel]) | (first | refine iE ?_ ?_ | refine iD ?_ ?_ | refine iQ ?_ ?_ | refine iV ?_ ?_) <;> intro _ | refine And.intro (by omega) ?_ | fail)
    refine drawn_l ?_
    repeat' (first | (simp (disch := omega) only [push_cast, ↓reduceIte, zA, zG, zB, zH, zI, zC, zJ, zK, zL, zD, zE, zF, zM, zN, zO, zP, zQ, reduceCtorEq, not_true_eq_false, not_false_eq_true, c1, fa, addr_add_eq, Nat.zero_add]) | (first | refine iE ?_ ?_ | refine iD ?_ ?_ | refine iQ ?_ ?_ | refine iV ?_ ?_) <;> intro _ | refine And.intro (by omega) ?_ | fail)
    refine nP_bld (.agg (pnC (strI q.fr q.to el i)).toArray) (fun w' => ?_) ?_
    · repeat' (first | (simp (disch := omega) only [push_cast, ↓reduceIte, zA, zG, zB, zH, zI, zC, zJ, zK, zL, zD, zE, zF, zM, zN, zO, zP, zQ, reduceCtorEq, not_true_eq_false, not_false_eq_true]) | (first | refine iE ?_ ?_ | refine iD ?_ ?_ | refine iQ ?_ ?_ | refine iV ?_ ?_) <;> intro _ | refine And.intro (by omega) ?_ | fail)
      rfl
    repeat' (first | (simp (disch := omega) only [push_cast, ↓reduceIte, zA, zG, zB, zH, zI, zC, zJ, zK, zL, zD, zE, zF, zM, zN, zO, zP, zQ, reduceCtorEq, not_true_eq_false, not_false_eq_true]) | (first | refine iE ?_ ?_ | refine iD ?_ ?_ | refine iQ ?_ ?_ | refine iV ?_ ?_) <;> intro _ | refine And.intro (by omega) ?_ | fail)
    refine nA_of _ (PtW w2 49 #[.int .i64 0, .int .i64 0, .int .i64 0, .int .i64 0, .int .i64 0]) (stb_ptw _ _ _ _) (fun w' hl => ?_) ?_
    · repeat' (first | (simp (disch := omega) only [push_cast, ↓reduceIte, zA, zG, zB, zH, zI, zC, zJ, zK, zL, zD, zE, zF, zM, zN, zO, zP, zQ, reduceCtorEq, not_true_eq_false, not_false_eq_true]) | (first | refine iE ?_ ?_ | refine iD ?_ ?_ | refine iQ ?_ ?_ | refine iV ?_ ?_) <;> intro _ | refine And.intro (by omega) ?_ | fail)
      exact ⟨later_alloc _ _, w'.heap.size, rfl, hl.size, Blk.new _ _ _⟩
    repeat' (first | (simp (disch := omega) only [push_cast, ↓reduceIte, zA, zG, zB, zH, zI, zC, zJ, zK, zL, zD, zE, zF, zM, zN, zO, zP, zQ, reduceCtorEq, not_true_eq_false, not_false_eq_true]) | (first | refine iE ?_ ?_ | refine iD ?_ ?_ | refine iQ ?_ ?_ | refine iV ?_ ?_) <;> intro _ | refine And.intro (by omega) ?_ | fail)
    rintro w3 l3 _ ⟨b, rfl, hb3, Bb⟩
    repeat' (first | (simp (disch := omega) only [push_cast, ↓reduceIte, zA, zG, zB, zH, zI, zC, zJ, zK, zL, zD, zE, zF, zM, zN, zO, zP, zQ, reduceCtorEq, not_true_eq_false, not_false_eq_true]) | (first | refine iE ?_ ?_ | refine iD ?_ ?_ | refine iQ ?_ ?_ | refine iV ?_ ?_) <;> intro _ | refine And.intro (by omega) ?_ | fail)
    refine vStore_blk (l := [.int .i64 0, .int .i64 0, .int .i64 0, .int .i64 0, .int .i64 0]) (xs := pnC (strI q.fr q.to el i)) Bb rfl rfl (pnC_one _) ?_
    intro w4 B4 c4
    have l24 : Later w2 w4 := Chg.later l3 c4 (by intro j hj; rw [List.mem_singleton.1 hj]; exact hb3)
    have ho4 := ho.later l24
    have f4 : cellsAt w4 ⟨b, 0, none⟩ 5 = some (pnC (strI q.fr q.to el i)) := Blk.cellsAt (l := pnC (strI q.fr q.to el i)) B4
    have g0 : w4.cell? ⟨b, 0, none⟩ = some (.int .i64 (strI q.fr q.to el i).fr) := B4.cell 0
    have g1 : w4.cell? ⟨b, 1, none⟩ = some (.int .i64 (strI q.fr q.to el i).to) := B4.cell 1
    have fa4 : w4.cell? (a.add i) = some (.int .i64 (el.getD i 0)) := l24.cell fa
    have hsc := strL_succ q.fr q.to el i
    have hll := strL_len q.fr q.to el i
    have l04 := l2.trans l24
    by_cases hlt : (strI q.fr q.to el i).fr < (strI q.fr q.to el i).to
    · rw [if_pos hlt] at hsc
      generalize strI q.fr q.to el i = X at *
      have hd3 := decide_eq_true hlt
      repeat' (first | (simp (disch := omega) only [push_cast, ↓reduceIte, zA, zG, zB, zH, zI, zC, zJ, zK, zL, zD, zE, zF, zM, zN, zO, zP, zQ, reduceCtorEq, not_true_eq_false, not_false_eq_true, g0, g1, hd3, f4, addr_add_eq, Nat.zero_add]) | (first | refine iE ?_ ?_ | refine iD ?_ ?_ | refine iQ ?_ ?_ | refine iV ?_ ?_) <;> intro _ | refine And.intro (by omega) ?_ | fail)
      have la := later_alloc w4 (.cells (pnC X).toArray 49)
      have Bl := Blk.new w4 (pnC X).toArray 49
      generalize w4.alloc (.cells (pnC X).toArray 49) = w5 at *
      have ho5 := ho4.later la
      refine vAppend_pn (r := [X]) ho5 (RecS.lit1 (pnC_len X) Bl) (by simp only [List.length_cons, List.length_nil]; omega) (Nat.le_trans l04.size la.size) ?_
      intro v' w6 ho6 hg _
      have l6 := (l04.trans la).appended ho5 (Nat.le_refl _) hg
      obtain ⟨_, hfa, fa6⟩ := int_at (l := el) (by rw [← hel] at he; exact Sl.later he (l12.trans l6)) (i := i) (by omega)
      obtain rfl := Option.some.inj hfa
      repeat' (first | (simp (disch := omega) only [push_cast, ↓reduceIte, zA, zG, zB, zH, zI, zC, zJ, zK, zL, zD, zE, zF, zM, zN, zO, zP, zQ, reduceCtorEq, not_true_eq_false, not_false_eq_true, fa6, hus, addr_add_eq, Nat.zero_add]) | (first | refine iE ?_ ?_ | refine iD ?_ ?_ | refine iQ ?_ ?_ | refine iV ?_ ?_) <;> intro _ | refine And.intro (by omega) ?_ | fail)
      refine ⟨rfl, (i + 1, v'), by simp (disch := omega) only [push_cast, ↓reduceIte, zA, zG, zB, zH, zI, zC, zJ, zK, zL, zD, zE, zF, zM, zN, zO, zP, zQ, reduceCtorEq, not_true_eq_false, not_false_eq_true], ⟨by dsimp only; omega, l6, by dsimp only; rw [hsc]; exact ho6⟩, by dsimp only; omega⟩
    · rw [if_neg hlt, List.append_nil] at hsc
      generalize strI q.fr q.to el i = X at *
      have hd3 := decide_eq_false hlt
      repeat' (first | (simp (disch := omega) only [push_cast, ↓reduceIte, zA, zG, zB, zH, zI, zC, zJ, zK, zL, zD, zE, zF, zM, zN, zO, zP, zQ, reduceCtorEq, not_true_eq_false, not_false_eq_true, g0, g1, hd3, f4, fa4, hus, addr_add_eq, Nat.zero_add]) | (first | refine iE ?_ ?_ | refine iD ?_ ?_ | refine iQ ?_ ?_ | refine iV ?_ ?_) <;> intro _ | refine And.intro (by omega) ?_ | fail)
      refine ⟨rfl, (i + 1, x), by simp (disch := omega) only [push_cast, ↓reduceIte, zA, zG, zB, zH, zI, zC, zJ, zK, zL, zD, zE, zF, zM, zN, zO, zP, zQ, reduceCtorEq, not_true_eq_false, not_false_eq_true], ⟨by dsimp only; omega, l04, by dsimp only; rw [hsc]; exact ho4⟩, by dsimp only; omega⟩
  · have hd2 : decide ((i : Int) < (p.tl.length : Int)) = false := decide_eq_false (by omega)
    obtain rfl : i = p.tl.length := by omega
    repeat' (first | (simp (disch := omega) only [push_cast, ↓reduceIte, zA, zG, zB, zH, zI, zC, zJ, zK, zL, zD, zE, zF, zM, zN, zO, zP, zQ, reduceCtorEq, not_true_eq_false, not_false_eq_true, hd2]) | (first | refine iE ?_ ?_ | refine iD ?_ ?_ | refine iQ ?_ ?_ | refine iV ?_ ?_) <;> intro _ | refine And.intro (by omega) ?_ | fail)
    first | exact ⟨(ho.base hb), (l12.trans l2)⟩ | exact (l12.trans l2)
end Go.Proofs.Ytnofalhkapmcnaa
end
section
set_option linter.unusedSimpArgs false
namespace Go.Proofs.Ytnofalhkapmcnaa
open Go.Vc Go.Key
set_option maxRecDepth 100000
end Go.Proofs.Ytnofalhkapmcnaa
end
section
set_option linter.unusedSimpArgs false
namespace Go.Vc
open Go.Op
section
variable {P : Program} {t : TypeId} {f0 f1 f2 f3 f4 : Field} (ht : P.underlying t = some (.struct #[f0, f1, f2, f3, f4])) (h0 : P.underlying f0.type = some (.int .i64)) (h1 : P.underlying f1.type = some (.int .i64)) (h2 : P.underlying f2.type = some (.int .i64)) (h3 : P.underlying f3.type = some (.int .i64)) (h4 : P.underlying f4.type = some (.int .i64))
    (o : (f0.offset, f1.offset, f2.offset, f3.offset, f4.offset) = (0, 1, 2, 3, 4)) (n0 : f0.name ≠ "_") (n1 : f1.name ≠ "_") (n2 : f2.name ≠ "_") (n3 : f3.name ≠ "_") (n4 : f4.name ≠ "_") (hp : P.stoodInHeld t = false) (hm : P.eqGuardType P.depth t = false)
include ht h0 h1 h2 h3 h4 o n0 n1 n2 n3 n4 hp hm
theorem run_five_eql (x y : Operand) (a b : PN) (w : World) :
    (do eqGuard .eql t x y (.agg (pnC a).toArray) (.agg (pnC b).toArray); binOp .eql t (.agg (pnC a).toArray) (.agg (pnC b).toArray)).run P w = .ok (.bool (decide (a = b))) w := by
  simp only [Prod.mk.injEq] at o
  obtain ⟨o0, o1, o2, o3, o4⟩ := o
  obtain ⟨a0, a1, a2, a3, a4⟩ := a
  obtain ⟨b0, b1, b2, b3, b4⟩ := b
  have hf : P.fieldsOf t = #[f0, f1, f2, f3, f4] := by unfold Program.fieldsOf; rw [ht]
  have hs : P.underlying t = some (.struct (P.fieldsOf t)) := by rw [hf]; exact ht
  have hd : (decide ((⟨a0, a1, a2, a3, a4⟩ : PN) = ⟨b0, b1, b2, b3, b4⟩)) = (a0 == b0 && (a1 == b1 && (a2 == b2 && (a3 == b3 && a4 == b4)))) := by
    rw [Bool.eq_iff_iff]; simp
  rw [hd]
  unfold pnC
  simp only [Sem.run_bind, run_eqGuard_agg w .eql t x y _ _ hm, Result.andThen_ok, run_eql_struct, run_equalIn_agg w 9999 t _ _ hs hp, hf]
  have i0 : ∀ w' : World, (isAgg f0.type).run P w' = .ok false w' := run_isAgg (by rw [h0]; rfl)
  have i1 : ∀ w' : World, (isAgg f1.type).run P w' = .ok false w' := run_isAgg (by rw [h1]; rfl)
  have i2 : ∀ w' : World, (isAgg f2.type).run P w' = .ok false w' := run_isAgg (by rw [h2]; rfl)
  have i3 : ∀ w' : World, (isAgg f3.type).run P w' = .ok false w' := run_isAgg (by rw [h3]; rfl)
  have i4 : ∀ w' : World, (isAgg f4.type).run P w' = .ok false w' := run_isAgg (by rw [h4]; rfl)
  by_cases e1 : a0 = b0 <;> by_cases e2 : a1 = b1 <;> by_cases e3 : a2 = b2 <;> by_cases e4 : a3 = b3 <;> by_cases e5 : a4 = b4 <;> simp [Op.eqFields, n0, n1, n2, n3, n4, part, i0, i1, i2, i3, i4, o0, o1, o2, o3, o4, run_equalIn_int _ _ _ _ _ _ _ h0, run_equalIn_int _ _ _ _ _ _ _ h1, run_equalIn_int _ _ _ _ _ _ _ h2, run_equalIn_int _ _ _ _ _ _ _ h3, run_equalIn_int _ _ _ _ _ _ _ h4, e1, e2, e3, e4, e5]
end
end Go.Vc
namespace Go.Proofs.Ytnofalhkapmcnaa
open Go.Vc Go.Key Go.Op
set_option maxRecDepth 100000
theorem vBin_pn (x y : Operand) (a b : PN) {K : Value → World → Prop} {w : World} (hk : K (.bool (decide (a = b))) w) : vBin Try.prog .eql 49 x y (.agg (pnC a).toArray) (.agg (pnC b).toArray) K w := by
  show vcUp Try.prog K ((val (do eqGuard .eql 49 x y _ _; binOp .eql 49 _ _)).run Try.prog w)
  rw [run_val_pure (run_five_eql Try.underlying49 Try.underlying3 Try.underlying3 Try.underlying3 Try.underlying3 Try.underlying3 rfl (by decide) (by decide) (by decide) (by decide) (by decide) (by kernel_rfl) (by kernel_rfl) x y a b w)]
  exact hk
end Go.Proofs.Ytnofalhkapmcnaa
end
section
set_option linter.unusedSimpArgs false
namespace Go.Vc
open Go.Key
theorem resK_cells {P : Program} {R : Value → World → Prop} {σ : Env} {w : World} {a s : Nat} {t : TypeId} {rs : List ResultVar} {acc l : List Value} {ad : Addr} (ha : σ a = .pointer (some ad)) (hA : aggD P t (P.underlying t) = some s) (hl : cellsAt w ad s = some l)
    (hR : resK P rs (acc ++ [.agg l.toArray]) σ R w) : resK P (.cell a t :: rs) acc σ R w := by
  unfold resK
  rw [ha]
  obtain ⟨h1, h2⟩ := run_isAgg_yes hA w
  exact ⟨.agg l.toArray, by simp [loadVar, h1, run_sizeOf h2, run_loadCells' hl], hR⟩
instance : Inhabited CD := ⟨⟨0, 0, .slice none 0 0, []⟩⟩
/-- A plan's cuboid: its granularity, its dimensions. -/
def cub (p : PD) (x : PN) : CD := if x.proj = -1 then p.tl.getD x.tier.toNat default else p.pl.getD x.proj.toNat default
structure PnIn (p : PD) (x : PN) : Prop where
  t : 0 ≤ x.tier ∧ x.tier < (p.tl.length : Int)
  j : -1 ≤ x.proj ∧ x.proj < (p.pl.length : Int)
theorem cub_own {p : PD} {x : PN} (h : x.proj = -1) (ht : x.tier.toNat < p.tl.length) : cub p x = p.tl[x.tier.toNat] := by
  unfold cub; rw [if_pos h, List.getD_eq_getElem?_getD, List.getElem?_eq_getElem ht]; rfl
theorem cub_proj {p : PD} {x : PN} (h : x.proj ≠ -1) (ht : x.proj.toNat < p.pl.length) : cub p x = p.pl[x.proj.toNat] := by
  unfold cub; rw [if_neg h, List.getD_eq_getElem?_getD, List.getElem?_eq_getElem ht]; rfl
theorem cub_ok {w : World} {p : PD} {x : PN} (hp : p.Ok w) (hx : PnIn p x) : (cub p x).Ok w := by
  by_cases h : x.proj = -1
  · have ht : x.tier.toNat < p.tl.length := by have := hx.t; omega
    rw [cub_own h ht]
    exact hp.tl _ (List.getElem_mem ht)
  · have hj : x.proj.toNat < p.pl.length := by have := hx.j; omega
    rw [cub_proj h hj]
    exact hp.pl _ (List.getElem_mem hj)
end Go.Vc
namespace Go.Proofs.Ytnofalhkapmcnaa
open Go.Vc Go.Key
set_option maxRecDepth 100000
theorem pnB {w : World} {b : Nat} {x : PN} (B : Blk w b (pnC x).toArray 49) : w.cell? ⟨b, 0, none⟩ = some (.int .i64 x.fr) ∧ w.cell? ⟨b, 1, none⟩ = some (.int .i64 x.to) ∧ w.cell? ⟨b, 2, none⟩ = some (.int .i64 x.tier) ∧ w.cell? ⟨b, 3, none⟩ = some (.int .i64 x.proj) ∧ w.cell? ⟨b, 4, none⟩ = some (.int .i64 x.rows) := ⟨B.cell 0, B.cell 1, B.cell 2, B.cell 3, B.cell 4⟩
theorem scuboid_c (p : PD) (x : PN) (w : World) (hp : p.Ok w) (hx : PnIn p x) : FnC Try.prog 35 #[.agg (pdC p).toArray, .agg (pnC x).toArray] w fun v w' => (∃ t : Int, v = .agg #[.int .i64 t, .int .i64 (cub p x).g, (cub p x).dv]) ∧ Later w w' := by
  obtain ⟨to, tc, htv, ht1, ht2⟩ := RecS.slice hp.tv
  obtain ⟨po, pc, hpv, hp1, hp2⟩ := RecS.slice hp.pv
  refine enter35 _ _ ?_
  unfold B35
  have eca : (Value.agg (pdC p).toArray).cells = (pdC p).toArray := rfl
  have ecb : (Value.agg (pnC x).toArray).cells = (pnC x).toArray := rfl
  have l1 := later_alloc w (.cells (pdC p).toArray 28)
  have s1 : (w.alloc (.cells (pdC p).toArray 28)).heap.size = w.heap.size + 1 := World.size_alloc _ _
  have B1 := Blk.new w (pdC p).toArray 28
  have l2 := later_alloc (w.alloc (.cells (pdC p).toArray 28)) (.cells (pnC x).toArray 49)
  have B2 := Blk.new (w.alloc (.cells (pdC p).toArray 28)) (pnC x).toArray 49
  rw [s1] at B2
  have B1 := pdLater B1 l2
  have s2 : ((w.alloc (.cells (pdC p).toArray 28)).alloc (.cells (pnC x).toArray 49)).heap.size = w.heap.size + 2 := by rw [World.size_alloc, s1]
  repeat' (first | (simp (disch := omega) only [push_cast, ↓reduceIte, zA, zG, zB, zH, zI, zC, zJ, zK, zL, zD, zE, zF, zM, zN, zO, zP, zQ, reduceCtorEq, not_true_eq_false, not_false_eq_true, eca, ecb, s1]) | (first | refine iE ?_ ?_ | refine iD ?_ ?_ | refine iQ ?_ ?_ | refine iV ?_ ?_) <;> intro _ | refine And.intro (by omega) ?_ | fail)
  have l12 := l1.trans l2
  generalize (w.alloc (.cells (pdC p).toArray 28)).alloc (.cells (pnC x).toArray 49) = w1 at *
  generalize hkf : w.heap.size = kf at *
  have l3 := later_alloc w1 (.cells #[.int .i64 0, .int .i64 0, .slice none 0 0] 51)
  have B3 := Blk.new w1 #[.int .i64 0, .int .i64 0, .slice none 0 0] 51
  rw [s2] at B3
  rw [s2]
  have s3 : (w1.alloc (.cells #[.int .i64 0, .int .i64 0, .slice none 0 0] 51)).heap.size = kf + 3 := by rw [World.size_alloc, s2]
  generalize w1.alloc (.cells #[.int .i64 0, .int .i64 0, .slice none 0 0] 51) = w2 at *
  have l13 := l12.trans l3
  have B1 := pdLater B1 l3
  have B2 := B2.chg (Chg.of_later (ks := []) l3) (by simp)
  obtain ⟨a0, a1, _⟩ := pdAt B1
  obtain ⟨b0, b1, b2, b3, b4⟩ := pnB B2
  rw [htv] at a0
  rw [hpv] at a1
  have htt := hx.t
  have hjj := hx.j
  by_cases hpj : x.proj = -1
  · have hti : x.tier.toNat < p.tl.length := by omega
    have hok := cub_ok (hp.later l13) hx
    rw [cub_own hpj hti] at hok ⊢
    have d1 := decide_eq_true hpj
    have h4 := (hp.later l13).tv
    rw [htv] at h4
    obtain ⟨ta, rfl, fa⟩ := RecS.at cdC_len h4 hti
    generalize p.tl[x.tier.toNat] = T at *
    repeat' (first | (simp (disch := omega) only [push_cast, ↓reduceIte, zA, zG, zB, zH, zI, zC, zJ, zK, zL, zD, zE, zF, zM, zN, zO, zP, zQ, reduceCtorEq, not_true_eq_false, not_false_eq_true, b2, b3, a0, d1, fa, addr_add_eq, Nat.zero_add]) | (first | refine iE ?_ ?_ | refine iD ?_ ?_ | refine iQ ?_ ?_ | refine iV ?_ ?_) <;> intro _ | refine And.intro (by omega) ?_ | fail)
    refine vStore_tier T w2 hok ?_
    have B4 := Blk.new w2 (cdC T).toArray 60
    have l4 := later_alloc w2 (.cells (cdC T).toArray 60)
    rw [s3] at B4 ⊢
    generalize w2.alloc (.cells (cdC T).toArray 60) = w3 at *
    have c1 : w3.cell? ⟨kf + 3, 1, none⟩ = some (.int .i64 T.g) := B4.cell 1
    have c2 : w3.cell? ⟨kf + 3, 2, none⟩ = some T.dv := B4.cell 2
    have b2' := l4.cell b2
    obtain ⟨o, k, hv⟩ := Sl.slice hok.dv
    rw [hv] at c2 ⊢
    repeat' (first | (simp (disch := omega) only [push_cast, ↓reduceIte, zA, zG, zB, zH, zI, zC, zJ, zK, zL, zD, zE, zF, zM, zN, zO, zP, zQ, reduceCtorEq, not_true_eq_false, not_false_eq_true, b2', c1, c2, addr_add_eq, Nat.zero_add]) | (first | refine iE ?_ ?_ | refine iD ?_ ?_ | refine iQ ?_ ?_ | refine iV ?_ ?_) <;> intro _ | refine And.intro (by omega) ?_ | fail)
    have B3 := B3.chg (Chg.of_later (ks := []) l4) (by simp)
    refine vStore_blk (l := [.int .i64 0, .int .i64 0, .slice none 0 0]) (xs := [.int .i64 x.tier, .int .i64 T.g, .slice o (T.dl.map Value.string).length k]) B3 rfl rfl (by intro u hu; simp at hu; rcases hu with rfl | rfl | rfl <;> rfl) ?_
    intro w5 B5 c5
    have hl5 : Later w w5 := Chg.later (l13.trans l4) c5 (by intro j hj; rw [List.mem_singleton.1 hj, hkf]; omega)
    repeat' (first | (simp (disch := omega) only [push_cast, ↓reduceIte, zA, zG, zB, zH, zI, zC, zJ, zK, zL, zD, zE, zF, zM, zN, zO, zP, zQ, reduceCtorEq, not_true_eq_false, not_false_eq_true]) | (first | refine iE ?_ ?_ | refine iD ?_ ?_ | refine iQ ?_ ?_ | refine iV ?_ ?_) <;> intro _ | refine And.intro (by omega) ?_ | fail)
    refine resK_cells (s := 3) (by simp (disch := omega) only [push_cast, ↓reduceIte, zA, zG, zB, zH, zI, zC, zJ, zK, zL, zD, zE, zF, zM, zN, zO, zP, zQ, reduceCtorEq, not_true_eq_false, not_false_eq_true]) (by rw [Try.underlying51]; exact sz51) (Blk.cellsAt (l := [.int .i64 x.tier, .int .i64 T.g, .slice o (T.dl.map Value.string).length k]) B5) ?_
    repeat' (first | (simp (disch := omega) only [push_cast, ↓reduceIte, zA, zG, zB, zH, zI, zC, zJ, zK, zL, zD, zE, zF, zM, zN, zO, zP, zQ, reduceCtorEq, not_true_eq_false, not_false_eq_true]) | (first | refine iE ?_ ?_ | refine iD ?_ ?_ | refine iQ ?_ ?_ | refine iV ?_ ?_) <;> intro _ | refine And.intro (by omega) ?_ | refine drawn_q ?_ | fail)
    exact ⟨⟨_, rfl⟩, hl5⟩
  · have hji : x.proj.toNat < p.pl.length := by omega
    have hok := cub_ok (hp.later l13) hx
    rw [cub_proj hpj hji] at hok ⊢
    have d1 := decide_eq_false hpj
    have h4 := (hp.later l13).pv
    rw [hpv] at h4
    obtain ⟨ta, rfl, fa⟩ := RecS.at cdC_len h4 hji
    generalize p.pl[x.proj.toNat] = T at *
    obtain ⟨o, k, hv⟩ := Sl.slice hok.dv
    repeat' (first | (simp (disch := omega) only [push_cast, ↓reduceIte, zA, zG, zB, zH, zI, zC, zJ, zK, zL, zD, zE, zF, zM, zN, zO, zP, zQ, reduceCtorEq, not_true_eq_false, not_false_eq_true, b2, b3, a1, d1, fa, addr_add_eq, Nat.zero_add]) | (first | refine iE ?_ ?_ | refine iD ?_ ?_ | refine iQ ?_ ?_ | refine iV ?_ ?_) <;> intro _ | refine And.intro (by omega) ?_ | fail)
    refine vStore_blk (l := [.int .i64 0, .int .i64 0, .slice none 0 0]) (xs := cdC T) B3 rfl rfl (by intro u hu; simp only [cdC, List.mem_cons, List.not_mem_nil, or_false] at hu; rcases hu with rfl | rfl | rfl <;> first | rfl | (rw [hv]; rfl)) ?_
    intro w5 B5 c5
    have hl5 : Later w w5 := Chg.later l13 c5 (by intro j hj; rw [List.mem_singleton.1 hj, hkf]; omega)
    repeat' (first | (simp (disch := omega) only [push_cast, ↓reduceIte, zA, zG, zB, zH, zI, zC, zJ, zK, zL, zD, zE, zF, zM, zN, zO, zP, zQ, reduceCtorEq, not_true_eq_false, not_false_eq_true]) | (first | refine iE ?_ ?_ | refine iD ?_ ?_ | refine iQ ?_ ?_ | refine iV ?_ ?_) <;> intro _ | refine And.intro (by omega) ?_ | fail)
    refine resK_cells (s := 3) (by simp (disch := omega) only [push_cast, ↓reduceIte, zA, zG, zB, zH, zI, zC, zJ, zK, zL, zD, zE, zF, zM, zN, zO, zP, zQ, reduceCtorEq, not_true_eq_false, not_false_eq_true]) (by rw [Try.underlying51]; exact sz51) (Blk.cellsAt (l := cdC T) B5) ?_
    repeat' (first | (simp (disch := omega) only [push_cast, ↓reduceIte, zA, zG, zB, zH, zI, zC, zJ, zK, zL, zD, zE, zF, zM, zN, zO, zP, zQ, reduceCtorEq, not_true_eq_false, not_false_eq_true]) | (first | refine iE ?_ ?_ | refine iD ?_ ?_ | refine iQ ?_ ?_ | refine iV ?_ ?_) <;> intro _ | refine And.intro (by omega) ?_ | refine drawn_q ?_ | fail)
    exact ⟨⟨_, rfl⟩, hl5⟩
end Go.Proofs.Ytnofalhkapmcnaa
end
section
set_option linter.unusedSimpArgs false
namespace Go.Vc
open Go.Key
end Go.Vc
namespace Go.Proofs.Ytnofalhkapmcnaa
open Go.Vc Go.Key Go.Bkt
set_option maxRecDepth 100000
def elB (d : List ByteArray) (p : PD) (q : QD) (x : PN) : Bool := (usedL d q).all (fun s => inL s (cub p x).dl) && alB x.fr (cub p x).g && alB x.to (cub p x).g && decide (q.ev % (cub p x).g = 0)
/-- What is asked of a query, for that. -/
structure QIn (d : List ByteArray) (q : QD) : Prop where
  c : q.wh.cnt ≤ 1000000
  b : q.bl.length ≤ 1000
  d : d.length ≤ 1000
  e : q.ev = 0 ∨ Rt q.ev
theorem el1_c (x : ByteArray) (k : Nat) (v : Value) (l : List ByteArray) (w : World) (hk : w.cell? ⟨k, 2, none⟩ = some v) (h : StS w v l) : FnC Try.prog 37 #[.string x, pt k] w fun r w' => r = .bool (!inL x l) ∧ w' = w := by
  refine enter37 _ _ ?_
  unfold B37
  repeat' (first | (simp (disch := omega) only [push_cast, ↓reduceIte, zA, zG, zB, zH, zI, zC, zJ, zK, zL, zD, zE, zF, zM, zN, zO, zP, zQ, reduceCtorEq, not_true_eq_false, not_false_eq_true, hk, addr_add_eq, Nat.zero_add]) | (first | refine iE ?_ ?_ | refine iD ?_ ?_ | refine iQ ?_ ?_ | refine iV ?_ ?_) <;> intro _ | refine And.intro (by omega) ?_ | refine drawn_q ?_ | fail)
  refine (scontains_c v l x w h).mono ?_
  rintro _ w0 ⟨rfl, h0⟩; obtain rfl := h0.symm
  repeat' (first | (simp (disch := omega) only [push_cast, ↓reduceIte, zA, zG, zB, zH, zI, zC, zJ, zK, zL, zD, zE, zF, zM, zN, zO, zP, zQ, reduceCtorEq, not_true_eq_false, not_false_eq_true]) | (first | refine iE ?_ ?_ | refine iD ?_ ?_ | refine iQ ?_ ?_ | refine iV ?_ ?_) <;> intro _ | refine And.intro (by omega) ?_ | refine drawn_q ?_ | fail)
theorem not_any {α : Type} (l : List α) (f : α → Bool) : l.any (fun x => !f x) = !l.all f := by
  induction l with
  | nil => rfl
  | cons a l ih => rw [List.any_cons, List.all_cons, ih]; cases f a <;> simp
theorem evB {ev g : Int} (h : ev = 0 ∨ Rt ev) (hg : Rt g) : (decide (ev = 0) || coB ev g) = decide (ev % g = 0) := by
  rcases h with h | h
  · subst h; simp
  · unfold coB
    by_cases h0 : ev = 0
    · subst h0; simp
    · rw [decide_eq_false h0, Bool.false_or]
      exact decide_eq_decide.2 ⟨fun h => h.2.2, fun h' => ⟨h, hg, h'⟩⟩
set_option maxHeartbeats 2000000 in
theorem eligible_c (dv mv : Value) (d m : List ByteArray) (p : PD) (q : QD) (x : PN) (w : World) (h : ScIs w dv mv d m) (hp : p.Ok w) (hq : q.Ok w) (hx : PnIn p x) (hi : QIn d q) (hf : I6 x.fr) (ht : I6 x.to) : FnC Try.prog 15 #[scV dv mv, .agg (pdC p).toArray, .agg (qdC q).toArray, .agg (pnC x).toArray] w fun v w' => v = .bool (elB d p q x) ∧ Later w w' := by
  have esc : scV dv mv = .agg #[dv, mv] := rfl
  rw [esc]
  refine enter15 _ _ _ _ ?_
  unfold B15
  have eca : (Value.agg (pdC p).toArray).cells = (pdC p).toArray := rfl
  have ecb : (Value.agg #[dv, mv]).cells = #[dv, mv] := rfl
  have ecc : (Value.agg (qdC q).toArray).cells = (qdC q).toArray := rfl
  have ecd : (Value.agg (pnC x).toArray).cells = (pnC x).toArray := rfl
  have s0 : ∃ k0, k0 = w.heap.size := ⟨_, rfl⟩
  obtain ⟨k0, hk0⟩ := s0
  have la := later_alloc w (.cells #[dv, mv] 24)
  have Ba := Blk.new w #[dv, mv] 24
  have sa : (w.alloc (.cells #[dv, mv] 24)).heap.size = k0 + 1 := by rw [World.size_alloc, hk0]
  rw [← hk0] at Ba
  generalize hwa : w.alloc (.cells #[dv, mv] 24) = wa at *
  have lb := later_alloc wa (.cells (pdC p).toArray 28)
  have Bb := Blk.new wa (pdC p).toArray 28
  have sb : (wa.alloc (.cells (pdC p).toArray 28)).heap.size = k0 + 2 := by rw [World.size_alloc, sa]
  rw [sa] at Bb
  generalize hwb : wa.alloc (.cells (pdC p).toArray 28) = wb at *
  have lc := later_alloc wb (.cells (qdC q).toArray 42)
  have Bc := Blk.new wb (qdC q).toArray 42
  have sc : (wb.alloc (.cells (qdC q).toArray 42)).heap.size = k0 + 3 := by rw [World.size_alloc, sb]
  rw [sb] at Bc
  generalize hwc : wb.alloc (.cells (qdC q).toArray 42) = wc at *
  have ld := later_alloc wc (.cells (pnC x).toArray 49)
  have Bd := Blk.new wc (pnC x).toArray 49
  rw [sc] at Bd
  generalize hwd : wc.alloc (.cells (pnC x).toArray 49) = w1 at *
  repeat' (first | (simp (disch := omega) only [push_cast, ↓reduceIte, zA, zG, zB, zH, zI, zC, zJ, zK, zL, zD, zE, zF, zM, zN, zO, zP, zQ, reduceCtorEq, not_true_eq_false, not_false_eq_true, eca, ecb, ecc, ecd, hwa, sa, hwb, sb, hwc, sc, hwd, ← hk0]) | (first | refine iE ?_ ?_ | refine iD ?_ ?_ | refine iQ ?_ ?_ | refine iV ?_ ?_) <;> intro _ | refine And.intro (by omega) ?_ | fail)
  have l01 : Later w w1 := ((la.trans lb).trans lc).trans ld
  have FF : ∀ w', Later w1 w' → cellsAt w' ⟨k0, 0, none⟩ 2 = some [dv, mv] ∧ cellsAt w' ⟨k0 + 1, 0, none⟩ 3 = some (pdC p) ∧ cellsAt w' ⟨k0 + 2, 0, none⟩ 12 = some (qdC q) ∧ cellsAt w' ⟨k0 + 3, 0, none⟩ 5 = some (pnC x) ∧ w'.cell? ⟨k0 + 2, 3, none⟩ = some (.int .i64 q.ev) ∧ w'.cell? ⟨k0 + 3, 0, none⟩ = some (.int .i64 x.fr) ∧ w'.cell? ⟨k0 + 3, 1, none⟩ = some (.int .i64 x.to) := by
    intro w' hl
    have z1 := (Ba.chg (Chg.of_later (ks := []) (((lb.trans lc).trans ld).trans hl)) (by simp))
    have z2 := pdLater Bb ((lc.trans ld).trans hl)
    have z3 := qdLater Bc (ld.trans hl)
    have z4 := Bd.chg (Chg.of_later (ks := []) hl) (by simp)
    exact ⟨Blk.cellsAt (l := [dv, mv]) z1, Blk.cellsAt (l := pdC p) z2, Blk.cellsAt (l := qdC q) z3, Blk.cellsAt (l := pnC x) z4, z3.cell 3, z4.cell 0, z4.cell 1⟩
  have hk1 : w.heap.size ≤ k0 := by omega
  clear hwa hwb hwc hwd sa sb sc la lb lc ld Ba Bb Bc Bd
  obtain ⟨f1, f2, f3, f4, f5, f6, f7⟩ := FF w1 (Later.refl _)
  repeat' (first | (simp (disch := omega) only [push_cast, ↓reduceIte, zA, zG, zB, zH, zI, zC, zJ, zK, zL, zD, zE, zF, zM, zN, zO, zP, zQ, reduceCtorEq, not_true_eq_false, not_false_eq_true, f2, f4]) | (first | refine iE ?_ ?_ | refine iD ?_ ?_ | refine iQ ?_ ?_ | refine iV ?_ ?_) <;> intro _ | refine And.intro (by omega) ?_ | fail)
  refine (scuboid_c p x w1 (hp.later l01) hx).mono ?_
  rintro _ w2 ⟨⟨t0, rfl⟩, l2⟩
  have hok := cub_ok ((hp.later l01).later l2) hx
  unfold elB
  generalize cub p x = C at *
  obtain ⟨o, c, hv⟩ := Sl.slice hok.dv
  repeat' (first | (simp (disch := omega) only [push_cast, ↓reduceIte, zA, zG, zB, zH, zI, zC, zJ, zK, zL, zD, zE, zF, zM, zN, zO, zP, zQ, reduceCtorEq, not_true_eq_false, not_false_eq_true]) | (first | refine iE ?_ ?_ | refine iD ?_ ?_ | refine iQ ?_ ?_ | refine iV ?_ ?_) <;> intro _ | refine And.intro (by omega) ?_ | fail)
  refine vStore_new rfl rfl (by intro u hu; simp only [List.mem_toArray, List.mem_cons, List.not_mem_nil, or_false] at hu; rcases hu with rfl | rfl | rfl <;> first | rfl | (rw [hv]; rfl)) ?_
  have l3 := later_alloc w2 (.cells #[.int .i64 t0, .int .i64 C.g, C.dv] 51)
  have B3 := Blk.new w2 #[.int .i64 t0, .int .i64 C.g, C.dv] 51
  generalize w2.alloc (.cells #[.int .i64 t0, .int .i64 C.g, C.dv] 51) = w3 at *
  generalize w2.heap.size = k3 at *
  have l13 := l2.trans l3
  have l03 := l01.trans l13
  obtain ⟨f1, f2, f3, f4, f5, f6, f7⟩ := FF w3 l13
  repeat' (first | (simp (disch := omega) only [push_cast, ↓reduceIte, zA, zG, zB, zH, zI, zC, zJ, zK, zL, zD, zE, zF, zM, zN, zO, zP, zQ, reduceCtorEq, not_true_eq_false, not_false_eq_true, f1, f3]) | (first | refine iE ?_ ?_ | refine iD ?_ ?_ | refine iQ ?_ ?_ | refine iV ?_ ?_) <;> intro _ | refine And.intro (by omega) ?_ | fail)
  refine (tused_c dv mv d m q w3 (h.later l03) (hq.later l03) hi.c hi.b hi.d).mono ?_
  rintro uv w4 ⟨hu, l4⟩
  repeat' (first | (simp (disch := omega) only [push_cast, ↓reduceIte, zA, zG, zB, zH, zI, zC, zJ, zK, zL, zD, zE, zF, zM, zN, zO, zP, zQ, reduceCtorEq, not_true_eq_false, not_false_eq_true]) | (first | refine iE ?_ ?_ | refine iD ?_ ?_ | refine iQ ?_ ?_ | refine iV ?_ ?_) <;> intro _ | refine And.intro (by omega) ?_ | fail)
  have hpr : ∀ s ∈ usedL d q, Prd Try.prog w4 37 #[pt k3] (.string s) (!inL s C.dl) := by
    intro s _ w' hl
    have b : w'.cell? ⟨k3, 2, none⟩ = some C.dv := hl.cell (l4.cell (B3.cell 2))
    refine (el1_c s k3 C.dv C.dl w' b (((hok.later l3).later l4).later hl).dv).mono ?_
    rintro r w'' ⟨rfl, rfl⟩
    exact ⟨rfl, Later.refl _⟩
  refine (scontainsF_c uv (usedL d q) 37 #[pt k3] (fun s => !inL s C.dl) w4 hu hpr).mono ?_
  rintro _ w5 ⟨rfl, l5⟩
  rw [not_any]
  have l15 := l13.trans (l4.trans l5)
  have l05 := l01.trans l15
  cases hall : (usedL d q).all (fun s => inL s C.dl) with
  | false =>
    repeat' (first | (simp (disch := omega) only [push_cast, ↓reduceIte, zA, zG, zB, zH, zI, zC, zJ, zK, zL, zD, zE, zF, zM, zN, zO, zP, zQ, reduceCtorEq, not_true_eq_false, not_false_eq_true]) | (first | refine iE ?_ ?_ | refine iD ?_ ?_ | refine iQ ?_ ?_ | refine iV ?_ ?_) <;> intro _ | refine And.intro (by omega) ?_ | refine drawn_q ?_ | fail)
    first | exact ⟨(by simp), l05⟩ | exact l05
  | true =>
  obtain ⟨f1, f2, f3, f4, f5, f6, f7⟩ := FF w5 l15
  have g1 : w5.cell? ⟨k3, 1, none⟩ = some (.int .i64 C.g) := (l4.trans l5).cell (B3.cell 1)
  have hgI : I6 C.g := hok.g
  have hqI : I6 q.ev := hq.ev
  repeat' (first | (simp (disch := omega) only [push_cast, ↓reduceIte, zA, zG, zB, zH, zI, zC, zJ, zK, zL, zD, zE, zF, zM, zN, zO, zP, zQ, reduceCtorEq, not_true_eq_false, not_false_eq_true, f6, g1, addr_add_eq, Nat.zero_add]) | (first | refine iE ?_ ?_ | refine iD ?_ ?_ | refine iQ ?_ ?_ | refine iV ?_ ?_) <;> intro _ | refine And.intro (by omega) ?_ | fail)
  refine (baligned_c x.fr C.g w5 hf hgI).mono ?_
  rintro _ w0 ⟨rfl, h0⟩; obtain rfl := h0.symm
  cases ha : alB x.fr C.g with
  | false =>
    repeat' (first | (simp (disch := omega) only [push_cast, ↓reduceIte, zA, zG, zB, zH, zI, zC, zJ, zK, zL, zD, zE, zF, zM, zN, zO, zP, zQ, reduceCtorEq, not_true_eq_false, not_false_eq_true]) | (first | refine iE ?_ ?_ | refine iD ?_ ?_ | refine iQ ?_ ?_ | refine iV ?_ ?_) <;> intro _ | refine And.intro (by omega) ?_ | refine drawn_q ?_ | fail)
    first | exact ⟨(by simp), l05⟩ | exact l05
  | true =>
  repeat' (first | (simp (disch := omega) only [push_cast, ↓reduceIte, zA, zG, zB, zH, zI, zC, zJ, zK, zL, zD, zE, zF, zM, zN, zO, zP, zQ, reduceCtorEq, not_true_eq_false, not_false_eq_true, f7, g1, addr_add_eq, Nat.zero_add]) | (first | refine iE ?_ ?_ | refine iD ?_ ?_ | refine iQ ?_ ?_ | refine iV ?_ ?_) <;> intro _ | refine And.intro (by omega) ?_ | fail)
  refine (baligned_c x.to C.g w5 ht hgI).mono ?_
  rintro _ w0 ⟨rfl, h0⟩; obtain rfl := h0.symm
  cases hb : alB x.to C.g with
  | false =>
    repeat' (first | (simp (disch := omega) only [push_cast, ↓reduceIte, zA, zG, zB, zH, zI, zC, zJ, zK, zL, zD, zE, zF, zM, zN, zO, zP, zQ, reduceCtorEq, not_true_eq_false, not_false_eq_true]) | (first | refine iE ?_ ?_ | refine iD ?_ ?_ | refine iQ ?_ ?_ | refine iV ?_ ?_) <;> intro _ | refine And.intro (by omega) ?_ | refine drawn_q ?_ | fail)
    first | exact ⟨(by simp), l05⟩ | exact l05
  | true =>
  have hR : Rt C.g := by
    unfold alB at ha
    exact (of_decide_eq_true ha).1
  have hE := evB hi.e hR
  by_cases he0 : q.ev = 0
  · have d0 := decide_eq_true he0
    rw [d0, Bool.true_or] at hE
    rw [← hE]
    repeat' (first | (simp (disch := omega) only [push_cast, ↓reduceIte, zA, zG, zB, zH, zI, zC, zJ, zK, zL, zD, zE, zF, zM, zN, zO, zP, zQ, reduceCtorEq, not_true_eq_false, not_false_eq_true, f5, d0, addr_add_eq, Nat.zero_add]) | (first | refine iE ?_ ?_ | refine iD ?_ ?_ | refine iQ ?_ ?_ | refine iV ?_ ?_) <;> intro _ | refine And.intro (by omega) ?_ | refine drawn_q ?_ | fail)
    first | exact ⟨(by simp), l05⟩ | exact l05
  · have d0 := decide_eq_false he0
    rw [d0, Bool.false_or] at hE
    rw [← hE]
    repeat' (first | (simp (disch := omega) only [push_cast, ↓reduceIte, zA, zG, zB, zH, zI, zC, zJ, zK, zL, zD, zE, zF, zM, zN, zO, zP, zQ, reduceCtorEq, not_true_eq_false, not_false_eq_true, f5, d0, g1, addr_add_eq, Nat.zero_add]) | (first | refine iE ?_ ?_ | refine iD ?_ ?_ | refine iQ ?_ ?_ | refine iV ?_ ?_) <;> intro _ | refine And.intro (by omega) ?_ | fail)
    refine (bcoarser_c q.ev C.g w5 hqI hgI).mono ?_
    rintro _ w0 ⟨rfl, h0⟩; obtain rfl := h0.symm
    repeat' (first | (simp (disch := omega) only [push_cast, ↓reduceIte, zA, zG, zB, zH, zI, zC, zJ, zK, zL, zD, zE, zF, zM, zN, zO, zP, zQ, reduceCtorEq, not_true_eq_false, not_false_eq_true]) | (first | refine iE ?_ ?_ | refine iD ?_ ?_ | refine iQ ?_ ?_ | refine iV ?_ ?_) <;> intro _ | refine And.intro (by omega) ?_ | refine drawn_q ?_ | fail)
    first | exact ⟨(by simp), l05⟩ | exact l05
end Go.Proofs.Ytnofalhkapmcnaa
end
section
set_option linter.unusedSimpArgs false
namespace Go.Vc
open Go
/-- Less rows; if as many, a lower projection. -/
def ltN (a b : PN) : Bool := decide (a.rows < b.rows ∨ a.rows = b.rows ∧ a.proj < b.proj)
def cI (a b : Int) : Int := if a < b then -1 else if b < a then 1 else 0
def cmpN (a b : PN) : Int := if cI a.rows b.rows = 0 then cI a.proj b.proj else cI a.rows b.rows
theorem cmpN_lt (a b : PN) : decide (cmpN a b < 0) = ltN a b := by
  unfold cmpN ltN cI
  refine decide_eq_decide.2 ?_
  split <;> split <;> (try split) <;> omega
def minN (m : PN) (l : List PN) : PN := l.foldl (fun m y => if ltN y m then y else m) m
theorem minN_snoc (m : PN) (l : List PN) (y : PN) : minN m (l ++ [y]) = if ltN y (minN m l) then y else minN m l := by
  unfold minN
  rw [List.foldl_append]; rfl
end Go.Vc
namespace Go.Proofs.Ytnofalhkapmcnaa
open Go.Vc Go.Key Go.Bkt
set_option maxRecDepth 100000
theorem pindexF_c (v : Value) (l : List PN) (g : FuncId) (lb : Array Value) (p : PN → Bool) (w : World) (h : RecS pnC 5 w v l) (hp : ∀ x ∈ l, Prd Try.prog w g lb (.agg (pnC x).toArray) (p x)) : FnC Try.prog 85 #[v, .func (.func g) #[] lb] w fun r w' => r = .int .i64 (idxI p l) ∧ Later w w' := by
  obtain ⟨o, c, rfl, g1, g2⟩ := h.slice
  refine enter85 _ _ ?_
  unfold B85
  repeat' (first | (simp (disch := omega) only [push_cast, ↓reduceIte, zA, zG, zB, zH, zI, zC, zJ, zK, zL, zD, zE, zF, zM, zN, zO, zP, zQ, reduceCtorEq, not_true_eq_false, not_false_eq_true]) | (first | refine iE ?_ ?_ | refine iD ?_ ?_ | refine iQ ?_ ?_ | refine iV ?_ ?_) <;> intro _ | refine And.intro (by omega) ?_ | refine drawn_q ?_ | fail)
  refine vc_loop W85_0 (fun i : Nat => [(8, .int .i64 (i : Int))]) (fun i w' => i ≤ l.length ∧ Later w w' ∧ (l.take i).any p = false) (fun i => l.length - i) 0 (by decide) ?_ ?_ ?_
  · simp (disch := omega) only [push_cast, ↓reduceIte, zA, zG, zB, zH, zI, zC, zJ, zK, zL, zD, zE, zF, zM, zN, zO, zP, zQ, reduceCtorEq, not_true_eq_false, not_false_eq_true]
    try rfl
  · exact ⟨Nat.zero_le _, Later.refl _, by simp⟩
  rintro i uu w1 ⟨hi, l1, hno⟩
  by_cases hil : i < l.length
  · have hd : decide ((i : Int) < (l.length : Int)) = true := decide_eq_true (by omega)
    obtain ⟨a, rfl, c0⟩ := RecS.at pnC_len (h.later l1) hil
    repeat' (first | (simp (disch := omega) only [push_cast, ↓reduceIte, zA, zG, zB, zH, zI, zC, zJ, zK, zL, zD, zE, zF, zM, zN, zO, zP, zQ, reduceCtorEq, not_true_eq_false, not_false_eq_true, hd, c0]) | (first | refine iE ?_ ?_ | refine iD ?_ ?_ | refine iQ ?_ ?_ | refine iV ?_ ?_) <;> intro _ | refine And.intro (by omega) ?_ | refine drawn_q ?_ | fail)
    refine (hp l[i] (List.getElem_mem hil) w1 l1).mono ?_
    rintro _ w2 ⟨rfl, l2⟩
    cases hx : p l[i] with
    | true =>
      rw [idxI_hit hil hx hno]
      repeat' (first | (simp (disch := omega) only [push_cast, ↓reduceIte, zA, zG, zB, zH, zI, zC, zJ, zK, zL, zD, zE, zF, zM, zN, zO, zP, zQ, reduceCtorEq, not_true_eq_false, not_false_eq_true]) | (first | refine iE ?_ ?_ | refine iD ?_ ?_ | refine iQ ?_ ?_ | refine iV ?_ ?_) <;> intro _ | refine And.intro (by omega) ?_ | refine drawn_q ?_ | fail)
      first | exact ⟨rfl, (l1.trans l2)⟩ | exact (l1.trans l2)
    | false =>
      repeat' (first | (simp (disch := omega) only [push_cast, ↓reduceIte, zA, zG, zB, zH, zI, zC, zJ, zK, zL, zD, zE, zF, zM, zN, zO, zP, zQ, reduceCtorEq, not_true_eq_false, not_false_eq_true]) | (first | refine iE ?_ ?_ | refine iD ?_ ?_ | refine iQ ?_ ?_ | refine iV ?_ ?_) <;> intro _ | refine And.intro (by omega) ?_ | refine drawn_q ?_ | fail)
      exact ⟨rfl, i + 1, by simp (disch := omega) only [push_cast, ↓reduceIte, zA, zG, zB, zH, zI, zC, zJ, zK, zL, zD, zE, zF, zM, zN, zO, zP, zQ, reduceCtorEq, not_true_eq_false, not_false_eq_true], ⟨by omega, l1.trans l2, any_step hil hx hno⟩, by dsimp only; omega⟩
  · have hd : decide ((i : Int) < (l.length : Int)) = false := decide_eq_false (by omega)
    rw [List.take_of_length_le (by omega)] at hno
    rw [idxI_miss hno]
    repeat' (first | (simp (disch := omega) only [push_cast, ↓reduceIte, zA, zG, zB, zH, zI, zC, zJ, zK, zL, zD, zE, zF, zM, zN, zO, zP, zQ, reduceCtorEq, not_true_eq_false, not_false_eq_true, hd]) | (first | refine iE ?_ ?_ | refine iD ?_ ?_ | refine iQ ?_ ?_ | refine iV ?_ ?_) <;> intro _ | refine And.intro (by omega) ?_ | refine drawn_q ?_ | fail)
    first | exact ⟨rfl, l1⟩ | exact l1
def zeroPn : Value := .agg #[.int .i64 0, .int .i64 0, .int .i64 0, .int .i64 0, .int .i64 0]
theorem zeroP_one (m : Nat) : (∀ u ∈ (Builtin.zeroCells zeroPn.cells m).toList, u.oneCell' = true) ∧ (Builtin.zeroCells zeroPn.cells m).toList.length = m * 5 := by
  constructor
  · intro u hu
    simp only [Builtin.zeroCells, Array.toList_map, List.mem_map] at hu
    obtain ⟨i, _, rfl⟩ := hu
    have hs : zeroPn.cells.size = 5 := rfl
    rw [hs]
    have : i % 5 = 0 ∨ i % 5 = 1 ∨ i % 5 = 2 ∨ i % 5 = 3 ∨ i % 5 = 4 := by omega
    rcases this with h | h | h | h | h <;> rw [h] <;> rfl
  · simp only [Builtin.zeroCells, Array.toList_map, List.length_map, Array.length_toList, Array.size_range]
    rfl
set_option maxHeartbeats 2000000 in
theorem pdelete_c (B : Nat) (v : Value) (es : List PN) (g : FuncId) (lb : Array Value) (p : PN → Bool) (w0 w : World) (hl : Later w0 w) (hB : w0.heap.size ≤ B) (ho : OwnN w B v es) (hp : ∀ x ∈ es, Prd Try.prog w0 g lb (.agg (pnC x).toArray) (p x)) (h63 : es.length ≤ 1000000) :
    FnC Try.prog 45 #[v, .func (.func g) #[] lb] w fun r w' => RecS pnC 5 w' r (es.filter fun x => !p x) ∧ Later w0 w' := by
  have hm := OwnR.s ho
  obtain ⟨o, c, rfl, g1, g2⟩ := hm.slice
  refine enter45 _ _ ?_
  unfold B45
  repeat' (first | (simp (disch := omega) only [push_cast, ↓reduceIte, zA, zG, zB, zH, zI, zC, zJ, zK, zL, zD, zE, zF, zM, zN, zO, zP, zQ, reduceCtorEq, not_true_eq_false, not_false_eq_true]) | (first | refine iE ?_ ?_ | refine iD ?_ ?_ | refine iQ ?_ ?_ | refine iV ?_ ?_) <;> intro _ | refine And.intro (by omega) ?_ | refine drawn_q ?_ | fail)
  refine (pindexF_c _ es g lb p w hm (fun x hx => (hp x hx).later hl)).mono ?_
  rintro _ w1 ⟨rfl, l1⟩
  have l01 := hl.trans l1
  rcases idxI_or p es with ⟨he, hall⟩ | ⟨n, hn, he, hpn, hbef⟩
  · rw [he]
    have e : (es.filter fun x => !p x) = es := List.filter_eq_self.2 fun x hx => by simp [hall x hx]
    rw [e]
    repeat' (first | (simp (disch := omega) only [push_cast, ↓reduceIte, zA, zG, zB, zH, zI, zC, zJ, zK, zL, zD, zE, zF, zM, zN, zO, zP, zQ, reduceCtorEq, not_true_eq_false, not_false_eq_true]) | (first | refine iE ?_ ?_ | refine iD ?_ ?_ | refine iQ ?_ ?_ | refine iV ?_ ?_) <;> intro _ | refine And.intro (by omega) ?_ | refine drawn_q ?_ | fail)
    first | exact ⟨(hm.later l1), l01⟩ | exact l01
  · rw [he]
    cases o with
    | none => have h1 := SlN.len hm; have := h1.2.2.2.2 rfl; omega
    | some a =>
    obtain ⟨gr, rfl, hgr, _⟩ := own_writes ho
    have hpre : (es.take (n + 1)).filter (fun x => !p x) = es.take n := by
      rw [filter_step hn, if_neg (by rw [hpn]; simp), List.append_nil]
      exact List.filter_eq_self.2 fun x hx => by
        obtain ⟨j, hj, rfl⟩ := List.getElem_of_mem hx
        rw [List.length_take] at hj
        rw [List.getElem_take]
        simp [hbef j (by omega) (by omega)]
    repeat' (first | (simp (disch := omega) only [push_cast, ↓reduceIte, zA, zG, zB, zH, zI, zC, zJ, zK, zL, zD, zE, zF, zM, zN, zO, zP, zQ, reduceCtorEq, not_true_eq_false, not_false_eq_true]) | (first | refine iE ?_ ?_ | refine iD ?_ ?_ | refine iQ ?_ ?_ | refine iV ?_ ?_) <;> intro _ | refine And.intro (by omega) ?_ | refine drawn_q ?_ | fail)
    refine vc_loop W45_0 (fun q : Nat × Nat => [(5, .int .i64 (q.1 : Int)), (6, .int .i64 (q.2 : Int))])
      (fun q w' => q.1 < q.2 ∧ q.2 ≤ es.length ∧ Later w0 w' ∧ ∃ cur : List PN, cur.length = es.length ∧ OwnN w' B (.slice (some ⟨gr, 0, none⟩) es.length c) cur ∧ cur.take q.1 = (es.take q.2).filter (fun x => !p x) ∧ cur.drop q.2 = es.drop q.2) (fun q => es.length - q.2) (n, n + 1) (by decide) ?_ ?_ ?_
    · simp (disch := omega) only [push_cast, ↓reduceIte, zA, zG, zB, zH, zI, zC, zJ, zK, zL, zD, zE, zF, zM, zN, zO, zP, zQ, reduceCtorEq, not_true_eq_false, not_false_eq_true]
    · exact ⟨by dsimp only; omega, by dsimp only; omega, l01, es, rfl, ho.later l1, by dsimp only; exact hpre.symm, rfl⟩
    rintro ⟨i, j⟩ uu w2 ⟨hij, hj, l2, cur, hcl, hO, hT, hD⟩
    dsimp only at hij hj hT hD
    by_cases hlt : j < es.length
    · have hlt' : j < cur.length := by omega
      have hcur : cur[j] = es[j] := by
        have := congrArg (fun l => l[0]?) hD
        simp only [List.getElem?_drop, Nat.add_zero] at this
        rw [List.getElem?_eq_getElem hlt', List.getElem?_eq_getElem hlt] at this
        exact Option.some.inj this
      have f1 := RecS.get pnC_len (OwnR.s hO) hlt'
      rw [hcur] at f1
      have hstep := filter_step (p := fun x => !p x) hlt
      have hpx := hp es[j] (List.getElem_mem _)
      have hD' : cur.drop (j + 1) = es.drop (j + 1) := by
        have := congrArg (List.drop 1) hD
        simpa [List.drop_drop] using this
      generalize es[j] = x at *
      rw [addr_add_eq, Nat.zero_add] at f1
      repeat' (first | (simp (disch := omega) only [push_cast, ↓reduceIte, zA, zG, zB, zH, zI, zC, zJ, zK, zL, zD, zE, zF, zM, zN, zO, zP, zQ, reduceCtorEq, not_true_eq_false, not_false_eq_true, f1, addr_add_eq, Nat.zero_add]) | (first | refine iE ?_ ?_ | refine iD ?_ ?_ | refine iQ ?_ ?_ | refine iV ?_ ?_) <;> intro _ | refine And.intro (by omega) ?_ | refine drawn_q ?_ | fail)
      refine vStore_new rfl rfl (fun u hu => pnC_one x u (by simpa using hu)) ?_
      have l3 := later_alloc w2 (.cells (pnC x).toArray 49)
      have f3 : cellsAt (w2.alloc (.cells (pnC x).toArray 49)) ⟨w2.heap.size, 0, none⟩ 5 = some (pnC x) := Blk.cellsAt (l := pnC x) (Blk.new w2 _ _)
      generalize w2.alloc (.cells (pnC x).toArray 49) = w3 at *
      generalize w2.heap.size = k3 at *
      repeat' (first | (simp (disch := omega) only [push_cast, ↓reduceIte, zA, zG, zB, zH, zI, zC, zJ, zK, zL, zD, zE, zF, zM, zN, zO, zP, zQ, reduceCtorEq, not_true_eq_false, not_false_eq_true, f3]) | (first | refine iE ?_ ?_ | refine iD ?_ ?_ | refine iQ ?_ ?_ | refine iV ?_ ?_) <;> intro _ | refine And.intro (by omega) ?_ | refine drawn_q ?_ | fail)
      refine (hpx w3 (l2.trans l3)).mono ?_
      rintro _ w4 ⟨rfl, l4⟩
      have l24 := l2.trans (l3.trans l4)
      have hO4 := hO.later (l3.trans l4)
      cases hx : p x with
      | true =>
        repeat' (first | (simp (disch := omega) only [push_cast, ↓reduceIte, zA, zG, zB, zH, zI, zC, zJ, zK, zL, zD, zE, zF, zM, zN, zO, zP, zQ, reduceCtorEq, not_true_eq_false, not_false_eq_true]) | (first | refine iE ?_ ?_ | refine iD ?_ ?_ | refine iQ ?_ ?_ | refine iV ?_ ?_) <;> intro _ | refine And.intro (by omega) ?_ | refine drawn_q ?_ | fail)
        refine ⟨rfl, (i, j + 1), by simp (disch := omega) only [push_cast, ↓reduceIte, zA, zG, zB, zH, zI, zC, zJ, zK, zL, zD, zE, zF, zM, zN, zO, zP, zQ, reduceCtorEq, not_true_eq_false, not_false_eq_true], ⟨by dsimp only; omega, by dsimp only; omega, l24, cur, hcl, hO4, ?_, hD'⟩, by dsimp only; omega⟩
        dsimp only
        rw [hstep, if_neg (by simp [hx]), List.append_nil, hT]
      | false =>
        have f4 := cellsAt_later l4 5 f3
        rw [← hcl] at hO4
        obtain ⟨g', hg', hBg, ⟨cs, hb⟩, hcan, ho8, hc8⟩ := OwnR.set pnC_len hO4 (i := i) (by omega) x
        obtain rfl : gr = g' := congrArg Addr.block hg'
        rw [addr_add_eq, Nat.zero_add] at hcan ho8 hc8
        repeat' (first | (simp (disch := omega) only [push_cast, ↓reduceIte, zA, zG, zB, zH, zI, zC, zJ, zK, zL, zD, zE, zF, zM, zN, zO, zP, zQ, reduceCtorEq, not_true_eq_false, not_false_eq_true, f4, addr_add_eq, Nat.zero_add]) | (first | refine iE ?_ ?_ | refine iD ?_ ?_ | refine iQ ?_ ?_ | refine iV ?_ ?_) <;> intro _ | refine And.intro (by omega) ?_ | refine drawn_q ?_ | fail)
        refine ⟨rfl, by intro u hu; exact pnC_one x u (by simpa [Value.cells] using hu), hcan, ?_⟩
        have ex : (Value.agg (pnC x).toArray).cells.toList = pnC x := rfl
        rw [ex]
        rw [hcl] at ho8
        generalize storeAll w4 ⟨gr, i * 5, none⟩ (pnC x) = w8 at *
        repeat' (first | (simp (disch := omega) only [push_cast, ↓reduceIte, zA, zG, zB, zH, zI, zC, zJ, zK, zL, zD, zE, zF, zM, zN, zO, zP, zQ, reduceCtorEq, not_true_eq_false, not_false_eq_true]) | (first | refine iE ?_ ?_ | refine iD ?_ ?_ | refine iQ ?_ ?_ | refine iV ?_ ?_) <;> intro _ | refine And.intro (by omega) ?_ | refine drawn_q ?_ | fail)
        refine ⟨rfl, (i + 1, j + 1), by simp (disch := omega) only [push_cast, ↓reduceIte, zA, zG, zB, zH, zI, zC, zJ, zK, zL, zD, zE, zF, zM, zN, zO, zP, zQ, reduceCtorEq, not_true_eq_false, not_false_eq_true], ⟨by dsimp only; omega, by dsimp only; omega, Chg.later l24 hc8 (by intro q hq; rw [List.mem_singleton.1 hq]; omega), cur.set i x, by simp [hcl], ho8, ?_, ?_⟩, by dsimp only; omega⟩
        · dsimp only
          rw [hstep, if_pos (by simp [hx]), ← hT]
          rw [List.take_set, List.take_add_one, List.getElem?_eq_getElem (show i < cur.length by omega)]
          simp only [Option.toList_some]
          rw [List.set_append_right _ _ (by simp; omega)]
          have : (i - (cur.take i).length) = 0 := by simp; omega
          rw [this]
          simp
        · dsimp only
          rw [List.drop_set_of_lt (by omega)]
          exact hD'
    · have hje : j = es.length := by omega
      subst hje
      rw [List.take_length] at hT
      obtain ⟨g', hg', hBg, _, ⟨cs, hb⟩, hcan⟩ := own_writes hO
      obtain rfl : gr = g' := congrArg Addr.block hg'
      obtain ⟨hz1, hz2⟩ := zeroP_one (es.length - i)
      have em : ((es.length : Int) - (i : Int)).toNat = es.length - i := by omega
      have ea : slAddr (some ⟨gr, 0, none⟩) (i : Int) (c : Int) 5 = some ⟨gr, i * 5, none⟩ := by
        unfold slAddr
        rw [if_neg (by omega), Option.map_some, addr_add_eq, Nat.zero_add, Int.toNat_natCast]
      repeat' (first | (simp (disch := omega) only [push_cast, ↓reduceIte, zA, zG, zB, zH, zI, zC, zJ, zK, zL, zD, zE, zF, zM, zN, zO, zP, zQ, reduceCtorEq, not_true_eq_false, not_false_eq_true]) | (first | refine iE ?_ ?_ | refine iD ?_ ?_ | refine iQ ?_ ?_ | refine iV ?_ ?_) <;> intro _ | refine And.intro (by omega) ?_ | refine drawn_q ?_ | fail)
      refine vX_clear (m := es.length - i) (a := ⟨gr, i * 5, none⟩) (c := ((c : Int) - (i : Int)).toNat) Try.underlying45 (z := zeroPn) ti49 (by simp (disch := omega) only [push_cast, ↓reduceIte, zA, zG, zB, zH, zI, zC, zJ, zK, zL, zD, zE, zF, zM, zN, zO, zP, zQ, reduceCtorEq, not_true_eq_false, not_false_eq_true, em, ea]) (by omega) hz1 (hcan _ _ (by rw [hz2, hcl, ← Nat.add_mul]; exact Nat.mul_le_mul_right _ (by omega))) ?_
      obtain ⟨q1, q2⟩ := own_storeAll (Builtin.zeroCells zeroPn.cells (es.length - i)).toList w2 (i * 5) (cur.map pnC).flatten hO (by rw [hz2, hcl, ← Nat.add_mul]; exact Nat.mul_le_mul_right _ (by omega))
      generalize storeAll w2 ⟨gr, i * 5, none⟩ (Builtin.zeroCells zeroPn.cells (es.length - i)).toList = w3 at *
      have l3 : Later w0 w3 := Chg.later l2 q2 (by intro q hq; rw [List.mem_singleton.1 hq]; omega)
      rw [hcl] at q1
      have hs := SlN.preN (SlN.of_own q1) (k := i) (by omega)
      rw [wrs_take, rec_take pnC_len, hT] at hs
      have hlen : (es.filter (fun x => !p x)).length = i := by rw [← hT, List.length_take]; omega
      have hRec : RecS pnC 5 w3 (.slice (some ⟨gr, 0, none⟩) i c) (es.filter (fun x => !p x)) := by
        unfold RecS
        rw [hlen]
        exact hs
      repeat' (first | (simp (disch := omega) only [push_cast, ↓reduceIte, zA, zG, zB, zH, zI, zC, zJ, zK, zL, zD, zE, zF, zM, zN, zO, zP, zQ, reduceCtorEq, not_true_eq_false, not_false_eq_true]) | (first | refine iE ?_ ?_ | refine iD ?_ ?_ | refine iQ ?_ ?_ | refine iV ?_ ?_) <;> intro _ | refine And.intro (by omega) ?_ | refine drawn_q ?_ | fail)
      first | exact ⟨hRec, l3⟩ | exact l3
theorem choose2_c (a b : PN) (w : World) : FnC Try.prog 49 #[.agg (pnC a).toArray, .agg (pnC b).toArray] w fun r w' => r = .int .i64 (cmpN a b) ∧ Later w w' := by
  refine enter49 _ _ ?_
  unfold B49
  have eca : (Value.agg (pnC a).toArray).cells = (pnC a).toArray := rfl
  have ecb : (Value.agg (pnC b).toArray).cells = (pnC b).toArray := rfl
  have l1 := later_alloc w (.cells (pnC a).toArray 49)
  have s1 : (w.alloc (.cells (pnC a).toArray 49)).heap.size = w.heap.size + 1 := World.size_alloc _ _
  have B1 := Blk.new w (pnC a).toArray 49
  have l2 := later_alloc (w.alloc (.cells (pnC a).toArray 49)) (.cells (pnC b).toArray 49)
  have B2 := Blk.new (w.alloc (.cells (pnC a).toArray 49)) (pnC b).toArray 49
  rw [s1] at B2
  have B1 := B1.chg (Chg.of_later (ks := []) l2) (by simp)
  repeat' (first | (simp (disch := omega) only [push_cast, ↓reduceIte, zA, zG, zB, zH, zI, zC, zJ, zK, zL, zD, zE, zF, zM, zN, zO, zP, zQ, reduceCtorEq, not_true_eq_false, not_false_eq_true, eca, ecb, s1]) | (first | refine iE ?_ ?_ | refine iD ?_ ?_ | refine iQ ?_ ?_ | refine iV ?_ ?_) <;> intro _ | refine And.intro (by omega) ?_ | fail)
  have l12 := l1.trans l2
  generalize (w.alloc (.cells (pnC a).toArray 49)).alloc (.cells (pnC b).toArray 49) = w1 at *
  generalize hkf : w.heap.size = kf at *
  obtain ⟨_, _, _, a3, a4⟩ := pnB B1
  obtain ⟨_, _, _, b3, b4⟩ := pnB B2
  refine drawn_k 9 ?_
  repeat' (first | (simp (disch := omega) only [push_cast, ↓reduceIte, zA, zG, zB, zH, zI, zC, zJ, zK, zL, zD, zE, zF, zM, zN, zO, zP, zQ, reduceCtorEq, not_true_eq_false, not_false_eq_true, a3, a4, b3, b4, addr_add_eq, Nat.zero_add]) | (first | refine iE ?_ ?_ | refine iD ?_ ?_ | refine iQ ?_ ?_ | refine iV ?_ ?_) <;> intro _ | refine And.intro (by omega) ?_ | fail)
  refine NFn.fix hb51 (v := .int .i64 (cI a.rows b.rows)) (fun w' _ => (cmpI_c a.rows b.rows w').mono fun v w'' h => ⟨h.1, h.2 ▸ Later.refl _⟩) ?_
  repeat' (first | (simp (disch := omega) only [push_cast, ↓reduceIte, zA, zG, zB, zH, zI, zC, zJ, zK, zL, zD, zE, zF, zM, zN, zO, zP, zQ, reduceCtorEq, not_true_eq_false, not_false_eq_true, a3, a4, b3, b4, addr_add_eq, Nat.zero_add]) | (first | refine iE ?_ ?_ | refine iD ?_ ?_ | refine iQ ?_ ?_ | refine iV ?_ ?_) <;> intro _ | refine And.intro (by omega) ?_ | fail)
  intro w2 l2
  repeat' (first | (simp (disch := omega) only [push_cast, ↓reduceIte, zA, zG, zB, zH, zI, zC, zJ, zK, zL, zD, zE, zF, zM, zN, zO, zP, zQ, reduceCtorEq, not_true_eq_false, not_false_eq_true]) | (first | refine iE ?_ ?_ | refine iD ?_ ?_ | refine iQ ?_ ?_ | refine iV ?_ ?_) <;> intro _ | refine And.intro (by omega) ?_ | fail)
  refine (cmpI_c a.proj b.proj w2).mono ?_
  rintro _ w0 ⟨rfl, h0⟩; obtain rfl := h0.symm
  repeat' (first | (simp (disch := omega) only [push_cast, ↓reduceIte, zA, zG, zB, zH, zI, zC, zJ, zK, zL, zD, zE, zF, zM, zN, zO, zP, zQ, reduceCtorEq, not_true_eq_false, not_false_eq_true]) | (first | refine iE ?_ ?_ | refine iD ?_ ?_ | refine iQ ?_ ?_ | refine iV ?_ ?_) <;> intro _ | refine And.intro (by omega) ?_ | fail)
  have hsl : Sl (w2.alloc (.cells #[.int .i64 (cI a.rows b.rows), .int .i64 (cI a.proj b.proj)] 3)) (.slice (some ⟨w2.heap.size, 0, none⟩) 2 2) (([cI a.rows b.rows, cI a.proj b.proj] : List Int).map i64v) := Sl.of_blk (xs := [.int .i64 (cI a.rows b.rows), .int .i64 (cI a.proj b.proj)]) (Blk.new w2 _ _) rfl (by unfold maxLen; omega)
  have l3 := later_alloc w2 (.cells #[.int .i64 (cI a.rows b.rows), .int .i64 (cI a.proj b.proj)] 3)
  have ec : (if a.proj < b.proj then (-1 : Int) else if b.proj < a.proj then 1 else 0) = cI a.proj b.proj := rfl
  rw [ec]
  refine (cmpOr_c _ _ _ _ hsl).mono ?_
  rintro _ w0 ⟨rfl, h0⟩; obtain rfl := h0.symm
  unfold cmpN
  repeat' (first | (simp (disch := omega) only [push_cast, ↓reduceIte, zA, zG, zB, zH, zI, zC, zJ, zK, zL, zD, zE, zF, zM, zN, zO, zP, zQ, reduceCtorEq, not_true_eq_false, not_false_eq_true]) | (first | refine iE ?_ ?_ | refine iD ?_ ?_ | refine iQ ?_ ?_ | refine iV ?_ ?_) <;> intro _ | refine And.intro (by omega) ?_ | refine drawn_q ?_ | fail)
  first | exact ⟨rfl, ((l12.trans l2).trans l3)⟩ | exact ((l12.trans l2).trans l3)
set_option maxHeartbeats 1000000 in
theorem minFunc_c (v : Value) (m : PN) (l : List PN) (w : World) (h : RecS pnC 5 w v (m :: l)) : FnC Try.prog 48 #[v, .func (.func 49) #[] #[]] w fun r w' => r = .agg (pnC (minN m l)).toArray ∧ Later w w' := by
  obtain ⟨o, c, rfl, g1, g2⟩ := h.slice
  rw [List.length_cons] at g1 h
  refine enter48 _ _ ?_
  unfold B48
  have l1 := later_alloc w (.cells #[.int .i64 0, .int .i64 0, .int .i64 0, .int .i64 0, .int .i64 0] 49)
  have s1 : (w.alloc (.cells #[.int .i64 0, .int .i64 0, .int .i64 0, .int .i64 0, .int .i64 0] 49)).heap.size = w.heap.size + 1 := World.size_alloc _ _
  have B1 := Blk.new w #[.int .i64 0, .int .i64 0, .int .i64 0, .int .i64 0, .int .i64 0] 49
  have d1 : decide ((((l.length + 1 : Nat)) : Int) < 1) = false := decide_eq_false (by omega)
  have d1' : decide (((l.length : Int) + 1) < 1) = false := decide_eq_false (by omega)
  repeat' (first | (simp (disch := omega) only [push_cast, ↓reduceIte, zA, zG, zB, zH, zI, zC, zJ, zK, zL, zD, zE, zF, zM, zN, zO, zP, zQ, reduceCtorEq, not_true_eq_false, not_false_eq_true, d1, d1', List.length_cons]) | (first | refine iE ?_ ?_ | refine iD ?_ ?_ | refine iQ ?_ ?_ | refine iV ?_ ?_) <;> intro _ | refine And.intro (by omega) ?_ | fail)
  generalize w.alloc (.cells #[.int .i64 0, .int .i64 0, .int .i64 0, .int .i64 0, .int .i64 0] 49) = w1 at *
  have hz := RecS.at pnC_len (h.later l1) (i := 0) (by simp)
  obtain ⟨a, rfl, f0⟩ := hz
  rw [Nat.zero_mul, addr_add_zero, List.getElem_cons_zero] at f0
  repeat' (first | (simp (disch := omega) only [push_cast, ↓reduceIte, zA, zG, zB, zH, zI, zC, zJ, zK, zL, zD, zE, zF, zM, zN, zO, zP, zQ, reduceCtorEq, not_true_eq_false, not_false_eq_true, f0, addr_add_zero]) | (first | refine iE ?_ ?_ | refine iD ?_ ?_ | refine iQ ?_ ?_ | refine iV ?_ ?_) <;> intro _ | refine And.intro (by omega) ?_ | fail)
  refine vStore_new rfl rfl (fun u hu => pnC_one m u (by simpa using hu)) ?_
  have l2 := later_alloc w1 (.cells (pnC m).toArray 49)
  have B2 := Blk.new w1 (pnC m).toArray 49
  rw [s1] at B2
  generalize hkw : w.heap.size = kf at *
  rw [s1]
  generalize w1.alloc (.cells (pnC m).toArray 49) = w2 at *
  have B1 := B1.chg (Chg.of_later (ks := []) l2) (by simp)
  have l12 := l1.trans l2
  repeat' (first | (simp (disch := omega) only [push_cast, ↓reduceIte, zA, zG, zB, zH, zI, zC, zJ, zK, zL, zD, zE, zF, zM, zN, zO, zP, zQ, reduceCtorEq, not_true_eq_false, not_false_eq_true]) | (first | refine iE ?_ ?_ | refine iD ?_ ?_ | refine iQ ?_ ?_ | refine iV ?_ ?_) <;> intro _ | refine And.intro (by omega) ?_ | fail)
  refine vc_loop W48_0 (fun i : Nat => [(6, .int .i64 ((i : Int) + 1))]) (fun i w' => i ≤ l.length ∧ Later w w' ∧ Blk w' kf #[.int .i64 0, .int .i64 0, .int .i64 0, .int .i64 0, .int .i64 0] 49 ∧ Blk w' (kf + 1) (pnC (minN m (l.take i))).toArray 49) (fun i => l.length - i) 0 (by decide) ?_ ?_ ?_
  · simp (disch := omega) only [push_cast, ↓reduceIte, zA, zG, zB, zH, zI, zC, zJ, zK, zL, zD, zE, zF, zM, zN, zO, zP, zQ, reduceCtorEq, not_true_eq_false, not_false_eq_true]
    try rfl
  · exact ⟨Nat.zero_le _, l12, B1, B2⟩
  rintro i uu w3 ⟨hi, l3, C1, C2⟩
  have e3 : cellsAt w3 ⟨kf + 1, 0, none⟩ 5 = some (pnC (minN m (l.take i))) := Blk.cellsAt (l := pnC (minN m (l.take i))) C2
  by_cases hil : i < l.length
  · have hd : decide ((i : Int) + 1 < ((l.length : Int) + 1)) = true := decide_eq_true (by omega)
    have hd' : decide ((i : Int) + 1 < (((l.length + 1 : Nat)) : Int)) = true := decide_eq_true (by omega)
    have hg := RecS.get pnC_len (h.later l3) (i := i + 1) (by simp; omega)
    rw [List.getElem_cons_succ] at hg
    have t1 : ((i : Int) + 1).toNat = i + 1 := by omega
    have hst : minN m (l.take (i + 1)) = if ltN l[i] (minN m (l.take i)) then l[i] else minN m (l.take i) := by
      rw [List.take_succ_eq_append_getElem hil, minN_snoc]
    generalize l[i] = x at *
    generalize minN m (l.take i) = M at *
    repeat' (first | (simp (disch := omega) only [push_cast, ↓reduceIte, zA, zG, zB, zH, zI, zC, zJ, zK, zL, zD, zE, zF, zM, zN, zO, zP, zQ, reduceCtorEq, not_true_eq_false, not_false_eq_true, hd, hd', hg, e3, t1, List.length_cons]) | (first | refine iE ?_ ?_ | refine iD ?_ ?_ | refine iQ ?_ ?_ | refine iV ?_ ?_) <;> intro _ | refine And.intro (by omega) ?_ | fail)
    refine drawn_q ?_
    repeat' (first | (simp (disch := omega) only [push_cast, ↓reduceIte, zA, zG, zB, zH, zI, zC, zJ, zK, zL, zD, zE, zF, zM, zN, zO, zP, zQ, reduceCtorEq, not_true_eq_false, not_false_eq_true, hg, e3, t1, List.length_cons]) | (first | refine iE ?_ ?_ | refine iD ?_ ?_ | refine iQ ?_ ?_ | refine iV ?_ ?_) <;> intro _ | refine And.intro (by omega) ?_ | fail)
    refine QFn.of hb49 (v := .int .i64 (cmpN x M)) (fun w' _ => choose2_c x M w') ?_
    have hlt := cmpN_lt x M
    repeat' (first | (simp (disch := omega) only [push_cast, ↓reduceIte, zA, zG, zB, zH, zI, zC, zJ, zK, zL, zD, zE, zF, zM, zN, zO, zP, zQ, reduceCtorEq, not_true_eq_false, not_false_eq_true, hlt]) | (first | refine iE ?_ ?_ | refine iD ?_ ?_ | refine iQ ?_ ?_ | refine iV ?_ ?_) <;> intro _ | refine And.intro (by omega) ?_ | fail)
    intro w4 l4
    have hg4 := cellsAt_later l4 5 hg
    have C1 := C1.chg (Chg.of_later (ks := []) l4) (by simp)
    have C2 := C2.chg (Chg.of_later (ks := []) l4) (by simp)
    cases hc : ltN x M with
    | true =>
      rw [hc, if_pos rfl] at hst
      repeat' (first | (simp (disch := omega) only [push_cast, ↓reduceIte, zA, zG, zB, zH, zI, zC, zJ, zK, zL, zD, zE, zF, zM, zN, zO, zP, zQ, reduceCtorEq, not_true_eq_false, not_false_eq_true, hg4, t1, List.length_cons]) | (first | refine iE ?_ ?_ | refine iD ?_ ?_ | refine iQ ?_ ?_ | refine iV ?_ ?_) <;> intro _ | refine And.intro (by omega) ?_ | fail)
      refine vStore_blk (l := pnC M) (xs := pnC x) C2 rfl rfl (pnC_one _) ?_
      intro w5 C5 c5
      have l5 := Chg.later (l3.trans l4) c5 (by intro j hj; rw [List.mem_singleton.1 hj, hkw]; omega)
      repeat' (first | (simp (disch := omega) only [push_cast, ↓reduceIte, zA, zG, zB, zH, zI, zC, zJ, zK, zL, zD, zE, zF, zM, zN, zO, zP, zQ, reduceCtorEq, not_true_eq_false, not_false_eq_true]) | (first | refine iE ?_ ?_ | refine iD ?_ ?_ | refine iQ ?_ ?_ | refine iV ?_ ?_) <;> intro _ | refine And.intro (by omega) ?_ | fail)
      exact ⟨rfl, i + 1, by simp (disch := omega) only [push_cast, ↓reduceIte, zA, zG, zB, zH, zI, zC, zJ, zK, zL, zD, zE, zF, zM, zN, zO, zP, zQ, reduceCtorEq, not_true_eq_false, not_false_eq_true], ⟨by omega, l5, C1.chg c5 (by simp), by rw [hst]; exact C5⟩, by dsimp only; omega⟩
    | false =>
      rw [hc, if_neg (by simp)] at hst
      repeat' (first | (simp (disch := omega) only [push_cast, ↓reduceIte, zA, zG, zB, zH, zI, zC, zJ, zK, zL, zD, zE, zF, zM, zN, zO, zP, zQ, reduceCtorEq, not_true_eq_false, not_false_eq_true]) | (first | refine iE ?_ ?_ | refine iD ?_ ?_ | refine iQ ?_ ?_ | refine iV ?_ ?_) <;> intro _ | refine And.intro (by omega) ?_ | fail)
      exact ⟨rfl, i + 1, by simp (disch := omega) only [push_cast, ↓reduceIte, zA, zG, zB, zH, zI, zC, zJ, zK, zL, zD, zE, zF, zM, zN, zO, zP, zQ, reduceCtorEq, not_true_eq_false, not_false_eq_true], ⟨by omega, l3.trans l4, C1, by rw [hst]; exact C2⟩, by dsimp only; omega⟩
  · have hd : decide ((i : Int) + 1 < ((l.length : Int) + 1)) = false := decide_eq_false (by omega)
    have hd' : decide ((i : Int) + 1 < (((l.length + 1 : Nat)) : Int)) = false := decide_eq_false (by omega)
    rw [List.take_of_length_le (by omega)] at e3
    generalize minN m l = M at *
    repeat' (first | (simp (disch := omega) only [push_cast, ↓reduceIte, zA, zG, zB, zH, zI, zC, zJ, zK, zL, zD, zE, zF, zM, zN, zO, zP, zQ, reduceCtorEq, not_true_eq_false, not_false_eq_true, hd, hd', e3, List.length_cons]) | (first | refine iE ?_ ?_ | refine iD ?_ ?_ | refine iQ ?_ ?_ | refine iV ?_ ?_) <;> intro _ | refine And.intro (by omega) ?_ | fail)
    refine vStore_blk (l := [.int .i64 0, .int .i64 0, .int .i64 0, .int .i64 0, .int .i64 0]) (xs := pnC M) C1 rfl rfl (pnC_one _) ?_
    intro w5 C5 c5
    have l5 := Chg.later l3 c5 (by intro j hj; rw [List.mem_singleton.1 hj, hkw]; omega)
    repeat' (first | (simp (disch := omega) only [push_cast, ↓reduceIte, zA, zG, zB, zH, zI, zC, zJ, zK, zL, zD, zE, zF, zM, zN, zO, zP, zQ, reduceCtorEq, not_true_eq_false, not_false_eq_true]) | (first | refine iE ?_ ?_ | refine iD ?_ ?_ | refine iQ ?_ ?_ | refine iV ?_ ?_) <;> intro _ | refine And.intro (by omega) ?_ | fail)
    refine resK_cells (s := 5) (by simp (disch := omega) only [push_cast, ↓reduceIte, zA, zG, zB, zH, zI, zC, zJ, zK, zL, zD, zE, zF, zM, zN, zO, zP, zQ, reduceCtorEq, not_true_eq_false, not_false_eq_true]) (by rw [Try.underlying49]; exact sz49) (Blk.cellsAt (l := pnC M) C5) ?_
    repeat' (first | (simp (disch := omega) only [push_cast, ↓reduceIte, zA, zG, zB, zH, zI, zC, zJ, zK, zL, zD, zE, zF, zM, zN, zO, zP, zQ, reduceCtorEq, not_true_eq_false, not_false_eq_true]) | (first | refine iE ?_ ?_ | refine iD ?_ ?_ | refine iQ ?_ ?_ | refine iV ?_ ?_) <;> intro _ | refine And.intro (by omega) ?_ | refine drawn_q ?_ | fail)
    first | exact ⟨rfl, l5⟩ | exact l5
end Go.Proofs.Ytnofalhkapmcnaa
end
section
set_option linter.unusedSimpArgs false
namespace Go.Vc
open Go Go.RowKit
/-- What a call owns stays, if other blocks change. -/
theorem own_off {w w' : World} {base s n : Nat} {e : TypeId} {v : Value} {xs : List Value} {ks : List Nat} (h : w.ownsRow base e s v n xs) (g : Chg w w' ks) (hk : ∀ k ∈ ks, v.ownBlock ≠ some k) : w'.ownsRow base e s v n xs := by
  obtain ⟨h0, h⟩ := h
  refine ⟨h0, ?_⟩
  rcases h with h | ⟨b, cap, cur, hv, hb, hh, h1, h2, h3, h4⟩
  · exact .inl h
  · refine .inr ⟨b, cap, cur, hv, hb, ?_, h1, h2, h3, h4⟩
    have hB : Blk w b cur e := hh
    exact hB.chg g fun hm => hk b hm (by rw [hv]; rfl)
def ownRows (x : PN) (fl : List SD) : Int := fl.foldl (fun r f => if f.tier = x.tier ∧ f.proj = -1 then f.rows else r) x.rows
def projs (x : PN) (fl : List SD) : List PN := (fl.filter fun f => decide (f.tier = x.tier ∧ f.proj ≠ -1)).map fun f => { x with proj := f.proj, rows := f.rows }
def cand (x : PN) (fl : List SD) : List PN := { x with rows := ownRows x fl } :: projs x fl
theorem cand_skip {x : PN} {fl : List SD} {f : SD} (h : f.tier ≠ x.tier) : cand x (fl ++ [f]) = cand x fl := by
  unfold cand ownRows projs
  rw [List.foldl_append, List.filter_append, List.map_append]
  simp [h]
theorem cand_own {x : PN} {fl : List SD} {f : SD} (h : f.tier = x.tier) (hp : f.proj = -1) : cand x (fl ++ [f]) = { x with rows := f.rows } :: projs x fl := by
  unfold cand ownRows projs
  rw [List.foldl_append, List.filter_append, List.map_append]
  simp [h, hp]
theorem cand_proj {x : PN} {fl : List SD} {f : SD} (h : f.tier = x.tier) (hp : f.proj ≠ -1) : cand x (fl ++ [f]) = cand x fl ++ [{ x with proj := f.proj, rows := f.rows }] := by
  unfold cand ownRows projs
  rw [List.foldl_append, List.filter_append, List.map_append]
  simp [h, hp]
theorem cand_len (x : PN) (fl : List SD) : (cand x fl).length ≤ fl.length + 1 := by
  unfold cand projs
  rw [List.length_cons, List.length_map]
  have := List.length_filter_le (fun f : SD => decide (f.tier = x.tier ∧ f.proj ≠ -1)) fl
  omega
end Go.Vc
namespace Go.Proofs.Ytnofalhkapmcnaa
open Go.Vc Go.Key Go.Bkt
set_option maxRecDepth 100000
theorem sdB {w : World} {b : Nat} {f : SD} (B : Blk w b (sdC f).toArray 57) : w.cell? ⟨b, 1, none⟩ = some (.int .i64 f.tier) ∧ w.cell? ⟨b, 2, none⟩ = some (.int .i64 f.proj) ∧ w.cell? ⟨b, 3, none⟩ = some (.int .i64 f.rows) := ⟨B.cell 1, B.cell 2, B.cell 3⟩
def IC (kf ky : Nat) (f : SD) (x : PN) (w1 : World) (v5 v13 : Value) (b0 b1 b2 b3 b4 b5 b6 b7 : Bool) (s5 s7 s8 s13 s18 s19 s20 s21 s22 s23 : Value) (w : World) : Prop :=
  (s5 = v5 ∧ s7 = pt kf ∧ s8 = pt ky ∧ s13 = v13) ∧ Chg w1 w [ky] ∧ Blk w ky (pnC ⟨x.fr, x.to, x.tier, if b5 = true then f.proj else x.proj, if b7 = true then f.rows else x.rows⟩).toArray 49 ∧
  (b0 = true → s18 = .pointer (some ⟨kf, 2, none⟩)) ∧ (b1 = true → s19 = .int .i64 f.proj) ∧ (b2 = true → s20 = .pointer (some ⟨kf, 3, none⟩)) ∧ (b3 = true → s21 = .int .i64 f.rows) ∧ (b4 = true → s22 = .pointer (some ⟨ky, 3, none⟩)) ∧ (b6 = true → s23 = .pointer (some ⟨ky, 4, none⟩))
set_option maxHeartbeats 2000000 in
theorem reg46_c {w1 : World} {kf ky : Nat} {f : SD} {x : PN} {K : Env → World → Prop} {σ : Env} (e7 : σ 7 = pt kf) (e8 : σ 8 = pt ky) (Bf : Blk w1 kf (sdC f).toArray 57) (By : Blk w1 ky (pnC x).toArray 49)
    (hK : ∀ (σ1 : Env) (w2 : World), σ1 5 = σ 5 → σ1 8 = pt ky → σ1 13 = σ 13 → Chg w1 w2 [ky] → Blk w2 ky (pnC { x with proj := f.proj, rows := f.rows }).toArray 49 → K σ1 w2) :
    anyA Try.prog r46_6 [[], [0], [], [2], [0, 1], [4, 1, 0, 1], [0, 1, 2, 3, 4, 5], [6, 3, 5, 0, 1, 2, 3, 4, 5]] K σ w1 := by
  have hne := blk_ne Bf By (by decide)
  refine ⟨fun D σ1 w => IC kf ky f x w1 (σ 5) (σ 13) (D 0) (D 1) (D 2) (D 3) (D 4) (D 5) (D 6) (D 7) (σ1 5) (σ1 7) (σ1 8) (σ1 13) (σ1 18) (σ1 19) (σ1 20) (σ1 21) (σ1 22) (σ1 23) w, ?_, ?_, ?_⟩
  · intro w' hl
    exact ⟨⟨rfl, e7, e8, rfl⟩, Chg.of_later hl, By.chg (Chg.of_later (ks := []) hl) (by simp), (fun h => by cases h), (fun h => by cases h), (fun h => by cases h), (fun h => by cases h), (fun h => by cases h), (fun h => by cases h)⟩
  · intro D σ1 w2 j o hcl hI hoj hDj hwt
    obtain ⟨⟨g5, g7, g8, g13⟩, hc, hB, k0, k1, k2, k3, k4, k6⟩ := hI
    obtain ⟨c1, c2, c3⟩ := sdB (Bf.chg hc (by simpa using hne))
    match j, hoj with
    | 0, hoj =>
      obtain rfl := Option.some.inj hoj
      repeat' (first | (simp (disch := omega) only [push_cast, ↓reduceIte, zA, zG, zB, zH, zI, zC, zJ, zK, zL, zD, zE, zF, zM, zN, zO, zP, zQ, reduceCtorEq, not_true_eq_false, not_false_eq_true, g7, addr_add_eq, Nat.zero_add]) | (first | refine iE ?_ ?_ | refine iD ?_ ?_ | refine iQ ?_ ?_ | refine iV ?_ ?_) <;> intro _ | refine And.intro (by omega) ?_ | refine drawn_q ?_ | fail)
      exact ⟨⟨g5, rfl, g8, g13⟩, hc, hB, fun _ => rfl, k1, k2, k3, k4, k6⟩
    | 1, hoj =>
      obtain rfl := Option.some.inj hoj
      have h18 := k0 (waits_at' hwt rfl (by simp))
      repeat' (first | (simp (disch := omega) only [push_cast, ↓reduceIte, zA, zG, zB, zH, zI, zC, zJ, zK, zL, zD, zE, zF, zM, zN, zO, zP, zQ, reduceCtorEq, not_true_eq_false, not_false_eq_true, h18, c2]) | (first | refine iE ?_ ?_ | refine iD ?_ ?_ | refine iQ ?_ ?_ | refine iV ?_ ?_) <;> intro _ | refine And.intro (by omega) ?_ | refine drawn_q ?_ | fail)
      exact ⟨⟨g5, g7, g8, g13⟩, hc, hB, fun _ => rfl, fun _ => rfl, k2, k3, k4, k6⟩
    | 2, hoj =>
      obtain rfl := Option.some.inj hoj
      repeat' (first | (simp (disch := omega) only [push_cast, ↓reduceIte, zA, zG, zB, zH, zI, zC, zJ, zK, zL, zD, zE, zF, zM, zN, zO, zP, zQ, reduceCtorEq, not_true_eq_false, not_false_eq_true, g7, addr_add_eq, Nat.zero_add]) | (first | refine iE ?_ ?_ | refine iD ?_ ?_ | refine iQ ?_ ?_ | refine iV ?_ ?_) <;> intro _ | refine And.intro (by omega) ?_ | refine drawn_q ?_ | fail)
      exact ⟨⟨g5, rfl, g8, g13⟩, hc, hB, k0, k1, fun _ => rfl, k3, k4, k6⟩
    | 3, hoj =>
      obtain rfl := Option.some.inj hoj
      have h20 := k2 (waits_at' hwt rfl (by simp))
      repeat' (first | (simp (disch := omega) only [push_cast, ↓reduceIte, zA, zG, zB, zH, zI, zC, zJ, zK, zL, zD, zE, zF, zM, zN, zO, zP, zQ, reduceCtorEq, not_true_eq_false, not_false_eq_true, h20, c3]) | (first | refine iE ?_ ?_ | refine iD ?_ ?_ | refine iQ ?_ ?_ | refine iV ?_ ?_) <;> intro _ | refine And.intro (by omega) ?_ | refine drawn_q ?_ | fail)
      exact ⟨⟨g5, g7, g8, g13⟩, hc, hB, k0, k1, fun _ => rfl, fun _ => rfl, k4, k6⟩
    | 4, hoj =>
      obtain rfl := Option.some.inj hoj
      repeat' (first | (simp (disch := omega) only [push_cast, ↓reduceIte, zA, zG, zB, zH, zI, zC, zJ, zK, zL, zD, zE, zF, zM, zN, zO, zP, zQ, reduceCtorEq, not_true_eq_false, not_false_eq_true, g8, addr_add_eq, Nat.zero_add]) | (first | refine iE ?_ ?_ | refine iD ?_ ?_ | refine iQ ?_ ?_ | refine iV ?_ ?_) <;> intro _ | refine And.intro (by omega) ?_ | refine drawn_q ?_ | fail)
      exact ⟨⟨g5, g7, rfl, g13⟩, hc, hB, k0, k1, k2, k3, fun _ => rfl, k6⟩
    | 5, hoj =>
      obtain rfl := Option.some.inj hoj
      have h22 := k4 (waits_at' hwt rfl (i := 4) (by simp))
      have h19 := k1 (waits_at' hwt rfl (i := 1) (by simp))
      obtain ⟨_, _, _, g3, _⟩ := pnB hB
      have fz := hB.frozen 3
      have hB2 := hB.set 3 (.int .i64 f.proj)
      have hc2 : Chg w2 (w2.setCell ⟨ky, 3, none⟩ (.int .i64 f.proj)) [ky] := chg_setCell w2 (by simp) _
      repeat' (first | (simp (disch := omega) only [push_cast, ↓reduceIte, zA, zG, zB, zH, zI, zC, zJ, zK, zL, zD, zE, zF, zM, zN, zO, zP, zQ, reduceCtorEq, not_true_eq_false, not_false_eq_true, h22, h19, g3, fz]) | (first | refine iE ?_ ?_ | refine iD ?_ ?_ | refine iQ ?_ ?_ | refine iV ?_ ?_) <;> intro _ | refine And.intro (by omega) ?_ | refine drawn_q ?_ | fail)
      generalize w2.setCell ⟨ky, 3, none⟩ (.int .i64 f.proj) = w3 at *
      exact ⟨⟨g5, g7, g8, g13⟩, hc.trans hc2, hB2, k0, fun _ => by first | exact h19 | rfl, k2, k3, fun _ => by first | exact h22 | rfl, k6⟩
    | 6, hoj =>
      obtain rfl := Option.some.inj hoj
      repeat' (first | (simp (disch := omega) only [push_cast, ↓reduceIte, zA, zG, zB, zH, zI, zC, zJ, zK, zL, zD, zE, zF, zM, zN, zO, zP, zQ, reduceCtorEq, not_true_eq_false, not_false_eq_true, g8, addr_add_eq, Nat.zero_add]) | (first | refine iE ?_ ?_ | refine iD ?_ ?_ | refine iQ ?_ ?_ | refine iV ?_ ?_) <;> intro _ | refine And.intro (by omega) ?_ | refine drawn_q ?_ | fail)
      exact ⟨⟨g5, g7, rfl, g13⟩, hc, hB, k0, k1, k2, k3, k4, fun _ => rfl⟩
    | 7, hoj =>
      obtain rfl := Option.some.inj hoj
      have h23 := k6 (waits_at' hwt rfl (i := 6) (by simp))
      have h21 := k3 (waits_at' hwt rfl (i := 3) (by simp))
      obtain ⟨_, _, _, _, g4⟩ := pnB hB
      have fz := hB.frozen 4
      have hB2 := hB.set 4 (.int .i64 f.rows)
      have hc2 : Chg w2 (w2.setCell ⟨ky, 4, none⟩ (.int .i64 f.rows)) [ky] := chg_setCell w2 (by simp) _
      repeat' (first | (simp (disch := omega) only [push_cast, ↓reduceIte, zA, zG, zB, zH, zI, zC, zJ, zK, zL, zD, zE, zF, zM, zN, zO, zP, zQ, reduceCtorEq, not_true_eq_false, not_false_eq_true, h23, h21, g4, fz]) | (first | refine iE ?_ ?_ | refine iD ?_ ?_ | refine iQ ?_ ?_ | refine iV ?_ ?_) <;> intro _ | refine And.intro (by omega) ?_ | refine drawn_q ?_ | fail)
      generalize w2.setCell ⟨ky, 4, none⟩ (.int .i64 f.rows) = w3 at *
      exact ⟨⟨g5, g7, g8, g13⟩, hc.trans hc2, hB2, k0, k1, k2, fun _ => by first | exact h21 | rfl, k4, fun _ => by first | exact h23 | rfl⟩
    | n + 8, hoj => exact absurd hoj (by simp [r46_6])
  · intro D σ1 w2 hI hall
    obtain ⟨⟨g5, g7, g8, g13⟩, hc, hB, _⟩ := hI
    have hall : ∀ j, j < 8 → D j = true := hall
    rw [hall 5 (by decide), hall 7 (by decide)] at hB
    exact hK σ1 w2 g5 g8 g13 hc hB
set_option maxHeartbeats 4000000 in
theorem candidates_c (x : PN) (fv : Value) (fl : List SD) (w : World) (hf : RecS sdC 4 w fv fl) (hfo : ∀ f ∈ fl, f.Ok) (hfl : fl.length ≤ 1000) : FnC Try.prog 46 #[.agg (pnC x).toArray, fv] w fun v w' => OwnN w' w.heap.size v (cand x fl) ∧ Later w w' := by
  obtain ⟨fo, fc, rfl, hf1, hf2⟩ := hf.slice
  refine enter46 _ _ ?_
  unfold B46
  have eca : (Value.agg (pnC x).toArray).cells = (pnC x).toArray := rfl
  have l1 := later_alloc w (.cells (pnC x).toArray 49)
  have B1 := Blk.new w (pnC x).toArray 49
  have f1 : cellsAt (w.alloc (.cells (pnC x).toArray 49)) ⟨w.heap.size, 0, none⟩ 5 = some (pnC x) := Blk.cellsAt (l := pnC x) B1
  repeat' (first | (simp (disch := omega) only [push_cast, ↓reduceIte, zA, zG, zB, zH, zI, zC, zJ, zK, zL, zD, zE, zF, zM, zN, zO, zP, zQ, reduceCtorEq, not_true_eq_false, not_false_eq_true, eca, f1]) | (first | refine iE ?_ ?_ | refine iD ?_ ?_ | refine iQ ?_ ?_ | refine iV ?_ ?_) <;> intro _ | refine And.intro (by omega) ?_ | fail)
  generalize w.alloc (.cells (pnC x).toArray 49) = w1 at *
  have l2 := later_alloc w1 (.cells (pnC x).toArray 49)
  have ho2 : OwnN (w1.alloc (.cells (pnC x).toArray 49)) w1.heap.size (.slice (some ⟨w1.heap.size, 0, none⟩) 1 1) (cand x []) := own_lit w1 (pnC x) _ 5 1 rfl (by unfold maxLen; omega) (Nat.le_refl _)
  generalize w1.alloc (.cells (pnC x).toArray 49) = w2 at *
  generalize hkx : w.heap.size = kx at *
  have hb : kx ≤ w1.heap.size := by rw [← hkx]; exact l1.size
  refine vc_loop W46_0 (fun p : Nat × Value => [(5, p.2), (13, .int .i64 (p.1 : Int))]) (fun p w' => p.1 ≤ fl.length ∧ Later w1 w' ∧ OwnN w' w1.heap.size p.2 (cand x (fl.take p.1))) (fun p => fl.length - p.1) (0, .slice (some ⟨w1.heap.size, 0, none⟩) 1 1) (by decide) ?_ ?_ ?_
  · simp (disch := omega) only [push_cast, ↓reduceIte, zA, zG, zB, zH, zI, zC, zJ, zK, zL, zD, zE, zF, zM, zN, zO, zP, zQ, reduceCtorEq, not_true_eq_false, not_false_eq_true]
    try rfl
  · exact ⟨Nat.zero_le _, l2, by simpa using ho2⟩
  rintro ⟨i, ov⟩ uu w3 ⟨hi, l3, ho⟩
  dsimp only at hi ho ⊢
  by_cases hik : i < fl.length
  · have hd2 : decide ((i : Int) < (fl.length : Int)) = true := decide_eq_true (by omega)
    obtain ⟨a, rfl, fa⟩ := RecS.at sdC_len (hf.later (l1.trans l3)) hik
    have hfok := hfo _ (List.getElem_mem hik)
    have htk : fl.take (i + 1) = fl.take i ++ [fl[i]] := List.take_succ_eq_append_getElem hik
    have hcl := cand_len x (fl.take i)
    rw [List.length_take] at hcl
    generalize fl[i] = f at *
    repeat' (first | (simp (disch := omega) only [push_cast, ↓reduceIte, zA, zG, zB, zH, zI, zC, zJ, zK, zL, zD, zE, zF, zM, zN, zO, zP, zQ, reduceCtorEq, not_true_eq_false, not_false_eq_true, hd2, fa, addr_add_eq, Nat.zero_add]) | (first | refine iE ?_ ?_ | refine iD ?_ ?_ | refine iQ ?_ ?_ | refine iV ?_ ?_) <;> intro _ | refine And.intro (by omega) ?_ | fail)
    refine vStore_new rfl rfl (by intro u hu; simp only [sdC, List.mem_toArray, List.mem_cons, List.not_mem_nil, or_false] at hu; rcases hu with rfl | rfl | rfl | rfl <;> rfl) ?_
    have l4 := later_alloc w3 (.cells (sdC f).toArray 57)
    have Bf := Blk.new w3 (sdC f).toArray 57
    generalize w3.alloc (.cells (sdC f).toArray 57) = w4 at *
    generalize w3.heap.size = kf at *
    have l14 := l3.trans l4
    have ho4 := ho.later l4
    obtain ⟨c1, c2, c3⟩ := sdB Bf
    have B14 := B1.chg (Chg.of_later (ks := []) l14) (by simp)
    obtain ⟨_, _, b2, _, _⟩ := pnB B14
    by_cases ht : f.tier = x.tier
    case neg =>
      have d1 := decide_eq_false ht
      have hst : cand x (fl.take (i + 1)) = cand x (fl.take i) := by rw [htk, cand_skip ht]
      repeat' (first | (simp (disch := omega) only [push_cast, ↓reduceIte, zA, zG, zB, zH, zI, zC, zJ, zK, zL, zD, zE, zF, zM, zN, zO, zP, zQ, reduceCtorEq, not_true_eq_false, not_false_eq_true, c1, b2, d1, addr_add_eq, Nat.zero_add]) | (first | refine iE ?_ ?_ | refine iD ?_ ?_ | refine iQ ?_ ?_ | refine iV ?_ ?_) <;> intro _ | refine And.intro (by omega) ?_ | fail)
      refine ⟨rfl, (i + 1, ov), by simp (disch := omega) only [push_cast, ↓reduceIte, zA, zG, zB, zH, zI, zC, zJ, zK, zL, zD, zE, zF, zM, zN, zO, zP, zQ, reduceCtorEq, not_true_eq_false, not_false_eq_true], ⟨by dsimp only; omega, l14, by dsimp only; rw [hst]; exact ho4⟩, by dsimp only; omega⟩
    have d1 := decide_eq_true ht
    by_cases hp : f.proj = -1
    · have d2 := decide_eq_true hp
      have hst : cand x (fl.take (i + 1)) = { x with rows := f.rows } :: projs x (fl.take i) := by rw [htk, cand_own ht hp]
      have hshape : ∃ g c, ov = .slice (some ⟨g, 0, none⟩) (cand x (fl.take i)).length c := by
        have h : w4.ownsRow w1.heap.size _ 5 ov ((projs x (fl.take i)).length + 1) _ := ho4
        exact own_succ h
      obtain ⟨g, c, rfl⟩ := hshape
      have hlen : (cand x (fl.take i)).length = (projs x (fl.take i)).length + 1 := rfl
      obtain ⟨k, hk, hkB, hklt, ho5, ⟨y, hy⟩, hfz, _⟩ := own_setN (i := 4) ho4 (by rw [hlen]; omega) (.int .i64 f.rows)
      obtain rfl : g = k := congrArg Addr.block hk
      have ho5' : OwnN (w4.setCell ⟨g, 4, none⟩ (.int .i64 f.rows)) w1.heap.size (.slice (some ⟨g, 0, none⟩) (cand x (fl.take i)).length c) (cand x (fl.take (i + 1))) := by
        rw [hst]
        exact ho5
      have l5 : Later w1 (w4.setCell ⟨g, 4, none⟩ (.int .i64 f.rows)) := l14.setCell hkB _
      have d0 : decide ((0 : Int) < ((cand x (fl.take i)).length : Int)) = true := decide_eq_true (by omega)
      repeat' (first | (simp (disch := omega) only [push_cast, ↓reduceIte, zA, zG, zB, zH, zI, zC, zJ, zK, zL, zD, zE, zF, zM, zN, zO, zP, zQ, reduceCtorEq, not_true_eq_false, not_false_eq_true, c1, c2, c3, b2, d1, d2, hy, hfz, hlen, addr_add_eq, Nat.zero_add]) | (first | refine iE ?_ ?_ | refine iD ?_ ?_ | refine iQ ?_ ?_ | refine iV ?_ ?_) <;> intro _ | refine And.intro (by omega) ?_ | fail)
      generalize w4.setCell ⟨g, 4, none⟩ (.int .i64 f.rows) = w5 at *
      try refine ⟨by omega, ?_⟩
      repeat' (first | (simp (disch := omega) only [push_cast, ↓reduceIte, zA, zG, zB, zH, zI, zC, zJ, zK, zL, zD, zE, zF, zM, zN, zO, zP, zQ, reduceCtorEq, not_true_eq_false, not_false_eq_true, hy, hfz, addr_add_eq, Nat.zero_add]) | (first | refine iE ?_ ?_ | refine iD ?_ ?_ | refine iQ ?_ ?_ | refine iV ?_ ?_) <;> intro _ | refine And.intro (by omega) ?_ | fail)
      refine ⟨rfl, (i + 1, .slice (some ⟨g, 0, none⟩) (cand x (fl.take i)).length c), by simp (disch := omega) only [push_cast, ↓reduceIte, zA, zG, zB, zH, zI, zC, zJ, zK, zL, zD, zE, zF, zM, zN, zO, zP, zQ, reduceCtorEq, not_true_eq_false, not_false_eq_true, hlen], ⟨by dsimp only; omega, l5, by dsimp only; exact ho5'⟩, by dsimp only; omega⟩
    · have d2 := decide_eq_false hp
      have hst : cand x (fl.take (i + 1)) = cand x (fl.take i) ++ [{ x with proj := f.proj, rows := f.rows }] := by rw [htk, cand_proj ht hp]
      have fx : cellsAt w4 ⟨kx, 0, none⟩ 5 = some (pnC x) := Blk.cellsAt (l := pnC x) B14
      repeat' (first | (simp (disch := omega) only [push_cast, ↓reduceIte, zA, zG, zB, zH, zI, zC, zJ, zK, zL, zD, zE, zF, zM, zN, zO, zP, zQ, reduceCtorEq, not_true_eq_false, not_false_eq_true, c1, c2, c3, b2, d1, d2, fx, addr_add_eq, Nat.zero_add]) | (first | refine iE ?_ ?_ | refine iD ?_ ?_ | refine iQ ?_ ?_ | refine iV ?_ ?_) <;> intro _ | refine And.intro (by omega) ?_ | fail)
      refine vStore_new rfl rfl (fun u hu => pnC_one x u (by simpa using hu)) ?_
      have l5 := later_alloc w4 (.cells (pnC x).toArray 49)
      have By := Blk.new w4 (pnC x).toArray 49
      have hlt := World.ownsRow.lt ho4
      have hky : w1.heap.size ≤ w4.heap.size := l14.size
      generalize w4.alloc (.cells (pnC x).toArray 49) = w5 at *
      generalize w4.heap.size = ky at *
      have ho5 := ho4.later l5
      have Bf5 := Bf.chg (Chg.of_later (ks := []) l5) (by simp)
      repeat' (first | (simp (disch := omega) only [push_cast, ↓reduceIte, zA, zG, zB, zH, zI, zC, zJ, zK, zL, zD, zE, zF, zM, zN, zO, zP, zQ, reduceCtorEq, not_true_eq_false, not_false_eq_true]) | (first | refine iE ?_ ?_ | refine iD ?_ ?_ | refine iQ ?_ ?_ | refine iV ?_ ?_) <;> intro _ | refine And.intro (by omega) ?_ | fail)
      refine Or.inr (reg46_c rfl rfl Bf5 By ?_)
      intro σ1 w6 g5 g8 g13 hc6 hB6
      have ho6 := own_off ho5 hc6 (by intro k hk; rw [List.mem_singleton.1 hk]; intro h; have := hlt ky h; omega)
      have l16 : Later w1 w6 := Chg.later (l14.trans l5) hc6 (by intro j hj; rw [List.mem_singleton.1 hj]; exact hky)
      have f6 : cellsAt w6 ⟨ky, 0, none⟩ 5 = some (pnC { x with proj := f.proj, rows := f.rows }) := Blk.cellsAt (l := pnC { x with proj := f.proj, rows := f.rows }) hB6
      have g5 : σ1 5 = ov := g5
      have g13 : σ1 13 = .int .i64 (i : Int) := g13
      generalize ({ x with proj := f.proj, rows := f.rows } : PN) = Y at *
      repeat' (first | (simp (disch := omega) only [push_cast, ↓reduceIte, zA, zG, zB, zH, zI, zC, zJ, zK, zL, zD, zE, zF, zM, zN, zO, zP, zQ, reduceCtorEq, not_true_eq_false, not_false_eq_true, g5, g8, g13, f6, addr_add_eq, Nat.zero_add]) | (first | refine iE ?_ ?_ | refine iD ?_ ?_ | refine iQ ?_ ?_ | refine iV ?_ ?_) <;> intro _ | refine And.intro (by omega) ?_ | fail)
      have la := later_alloc w6 (.cells (pnC Y).toArray 49)
      have Bl := Blk.new w6 (pnC Y).toArray 49
      generalize w6.alloc (.cells (pnC Y).toArray 49) = w7 at *
      have ho7 : OwnN w7 w1.heap.size ov (cand x (fl.take i)) := own_later ho6 la
      refine vAppend_pn (r := [Y]) ho7 (RecS.lit1 (pnC_len Y) Bl) (by simp only [List.length_cons, List.length_nil]; omega) (Nat.le_trans l16.size la.size) ?_
      intro v' w8 ho8 hg _
      have l8 := (l16.trans la).appended ho7 (Nat.le_refl _) hg
      repeat' (first | (simp (disch := omega) only [push_cast, ↓reduceIte, zA, zG, zB, zH, zI, zC, zJ, zK, zL, zD, zE, zF, zM, zN, zO, zP, zQ, reduceCtorEq, not_true_eq_false, not_false_eq_true, g13]) | (first | refine iE ?_ ?_ | refine iD ?_ ?_ | refine iQ ?_ ?_ | refine iV ?_ ?_) <;> intro _ | refine And.intro (by omega) ?_ | fail)
      refine ⟨rfl, (i + 1, v'), by simp (disch := omega) only [push_cast, ↓reduceIte, zA, zG, zB, zH, zI, zC, zJ, zK, zL, zD, zE, zF, zM, zN, zO, zP, zQ, reduceCtorEq, not_true_eq_false, not_false_eq_true], ⟨by dsimp only; omega, l8, by dsimp only; rw [hst]; exact ho8⟩, by dsimp only; omega⟩
  · have hd2 : decide ((i : Int) < (fl.length : Int)) = false := decide_eq_false (by omega)
    rw [List.take_of_length_le (by omega)] at ho
    repeat' (first | (simp (disch := omega) only [push_cast, ↓reduceIte, zA, zG, zB, zH, zI, zC, zJ, zK, zL, zD, zE, zF, zM, zN, zO, zP, zQ, reduceCtorEq, not_true_eq_false, not_false_eq_true, hd2]) | (first | refine iE ?_ ?_ | refine iD ?_ ?_ | refine iQ ?_ ?_ | refine iV ?_ ?_) <;> intro _ | refine And.intro (by omega) ?_ | fail)
    first | exact ⟨(ho.base hb), (l1.trans l3)⟩ | exact (l1.trans l3)
end Go.Proofs.Ytnofalhkapmcnaa
end
