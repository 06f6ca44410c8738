/- 'SelectorWitness', the second form: of each right manifest of small bulk the query that counts all, in buckets of the last tier's granularity, has plans. -/
import Derived.Test.YtnofalhkapmcnaaPartJ
set_option linter.all false
open Nat renaming reduceEqDiff → zA, reducePow → zB, reduceMul → zC, reduceAdd → zD, reduceSub → zE, reduceLeDiff → zF
open Int renaming reduceToNat → zG, reducePow → zH, reduceNeg → zI, reduceMul → zJ, reduceAdd → zK, reduceSub → zL, reduceLT → zM, reduceLE → zN, reduceEq → zO, reduceMod → zP, reduceDiv → zQ
set_option linter.unusedSimpArgs false
namespace Go.Vc
theorem and_small (n : Int) (m : Nat) (hm : m < 9223372036854775808) : 0 ≤ bitI .and .i64 n (m : Int) ∧ bitI .and .i64 n (m : Int) ≤ (m : Int) := by
  have e : bitI .and .i64 n (m : Int) = IntKind.i64.wrap ((BitVec.ofInt 64 n &&& BitVec.ofInt 64 (m : Int)).toNat : Int) := rfl
  have h2 : (BitVec.ofInt 64 (m : Int)).toNat = m := by
    rw [BitVec.toNat_ofInt]
    have : ((m : Int) % ((2 ^ 64 : Nat) : Int)).toNat = m := by
      rw [Int.emod_eq_of_lt (by omega) (by norm_cast; omega)]; omega
    exact this
  have h3 : (BitVec.ofInt 64 n &&& BitVec.ofInt 64 (m : Int)).toNat ≤ m := by
    rw [BitVec.toNat_and, h2]
    exact Nat.and_le_right
  rw [e]
  generalize (BitVec.ofInt 64 n &&& BitVec.ofInt 64 (m : Int)).toNat = x at *
  have : IntKind.i64.wrap (x : Int) = (x : Int) := by simp (disch := omega) only [push_cast, ↓reduceIte, zA, zG, zB, zH, zI, zC, zJ, zK, zL, zD, zE, zF, zM, zN, zO, zP, zQ, reduceCtorEq, not_true_eq_false, not_false_eq_true]
  rw [this]
  omega
end Go.Vc
namespace Go.Proofs.Ytnofalhkapmcnaa.selectorWitness
open Go.Vc Go.Key Go.Bkt Go.RowKit Go.ChangeShapes Go.Cub
set_option maxRecDepth 100000
/-- The granularities: each divides those behind it. -/
theorem gran_dvd {d : List ByteArray} {p : PD} (h : PlOk d p) : ∀ (j : Nat) (i : Nat) (hi : i < p.tl.length) (hj : i + j < p.tl.length), p.tl[i].g ∣ p.tl[i + j].g := by
  intro j
  induction j with
  | zero => intro i hi hj; exact Int.dvd_refl _
  | succ j ih =>
    intro i hi hj
    have h1 := ih i hi (by omega)
    obtain ⟨hc, _⟩ := h.next (i + j) hj
    unfold coB at hc
    exact Int.dvd_trans h1 (Int.dvd_of_emod_eq_zero (of_decide_eq_true hc).2.2)
def witQ (tv : Value) (g fr to : Int) : QD := ⟨tv, [⟨0, ⟨#[]⟩⟩], fr, to, g, .slice none 0 0, [], .mk 0 ⟨#[]⟩ ⟨#[]⟩ (.slice none 0 0) [], .slice none 0 0, [], 0, 0⟩
theorem witQ_ok {w : World} {tv : Value} {g fr to : Int} (ht : RecS tdC 2 w tv [⟨0, ⟨#[]⟩⟩]) (hg : I64 g) (hf : I64 fr) (h2 : I64 to) : (witQ tv g fr to).Ok w := by
  refine ⟨ht, ?_, hf, h2, hg, Sl.nil w, by simp [witQ], FT.ok_iff.2 ⟨iq 0, (show (⟨#[]⟩ : ByteArray).size ≤ 140737488351232 by decide), (show (⟨#[]⟩ : ByteArray).size ≤ 140737488351232 by decide), RecS.nil w, by simp [FT.kids, witQ]⟩, RecS.nil w, by simp [witQ], iq 0, iq 0⟩
  intro t ht
  rw [List.mem_singleton.1 ht]
  exact ⟨iq 0, by decide⟩
theorem used_none (d : List ByteArray) (tv : Value) (g fr to : Int) : usedL d (witQ tv g fr to) = [] := by
  unfold usedL
  rw [List.filter_eq_nil_iff]
  intro s _
  have : (witQ tv g fr to).bl ++ (witQ tv g fr to).wh.dims = [] := rfl
  rw [this]
  simp [inL]
/-- All stretches are eligible. -/
theorem all_el {m : MD} (hr : RgOk m) {n : Nat} (hn : m.p.tl.length = n + 1) {g a b : Int} {tv : Value} (hg : g = (m.p.tl[n]'(by omega)).g)
    (hE : ∀ j (hj : j < m.el.length), ∃ h2 : min (j + 1) n < m.p.tl.length, m.p.tl[min (j + 1) n].g ∣ m.el.getD j 0) : ∀ x ∈ strL (g * a) (g * a + g * b) m.el m.p.tl.length, elB m.dl m.p (witQ tv g (g * a) (g * a + g * b)) x = true := by
  intro x hx
  obtain ⟨i, hi, rfl, _⟩ := strL_mem hx
  have e1 : cub m.p (strI (g * a) (g * a + g * b) m.el i) = m.p.tl[i] := by
    have := cub_own (p := m.p) (x := strI (g * a) (g * a + g * b) m.el i) rfl (by show (i : Int).toNat < _; omega)
    rw [this]
    congr 1
  have hR := hr.pl.tier i hi
  have hRt : Rt m.p.tl[i].g := by
    have h := hR.1
    unfold grOk at h
    unfold Rt
    simp only [Bool.and_eq_true, decide_eq_true_eq] at h
    omega
  have hgd : m.p.tl[i].g ∣ g := by
    rw [hg]
    have := gran_dvd hr.pl (n - i) i hi (by omega)
    have e : i + (n - i) = n := by omega
    simpa [e] using this
  have hed : ∀ j, j < m.el.length → i ≤ min (j + 1) n → m.p.tl[i].g ∣ m.el.getD j 0 := by
    intro j hj hle
    obtain ⟨h2, h3⟩ := hE j hj
    have := gran_dvd hr.pl (min (j + 1) n - i) i hi (by omega)
    have e : i + (min (j + 1) n - i) = min (j + 1) n := by omega
    have this : m.p.tl[i].g ∣ m.p.tl[min (j + 1) n].g := by simpa [e] using this
    exact Int.dvd_trans this h3
  have hln := hr.ln
  have d1 : m.p.tl[i].g ∣ g * a := Int.dvd_trans hgd (Int.dvd_mul_right g a)
  have d2 : m.p.tl[i].g ∣ g * a + g * b := Int.dvd_add d1 (Int.dvd_trans hgd (Int.dvd_mul_right g b))
  have hfr : m.p.tl[i].g ∣ (strI (g * a) (g * a + g * b) m.el i).fr := by
    show m.p.tl[i].g ∣ max (g * a) (m.el.getD i 0)
    rcases Int.le_total (g * a) (m.el.getD i 0) with h | h
    · rw [Int.max_eq_right h]; exact hed i (by omega) (by omega)
    · rw [Int.max_eq_left h]; exact d1
  have hto : m.p.tl[i].g ∣ (strI (g * a) (g * a + g * b) m.el i).to := by
    cases i with
    | zero => exact d2
    | succ i =>
      show _ ∣ min (g * a + g * b) (m.el.getD i 0)
      rcases Int.le_total (g * a + g * b) (m.el.getD i 0) with h | h
      · rw [Int.min_eq_left h]; exact d2
      · rw [Int.min_eq_right h]; exact hed i (by omega) (by omega)
  unfold elB
  rw [e1, used_none]
  unfold alB
  rw [decide_eq_true ⟨hRt, Int.emod_eq_zero_of_dvd hfr⟩, decide_eq_true ⟨hRt, Int.emod_eq_zero_of_dvd hto⟩, decide_eq_true (Int.emod_eq_zero_of_dvd hgd : (witQ tv g (g * a) (g * a + g * b)).ev % m.p.tl[i].g = 0)]
  rfl
set_option maxHeartbeats 4000000 in
theorem law_c (m : MD) (from_ nn : Int) (w : World) (hm : m.Ok w) (w1 : I64 from_) (w2 : I64 nn) (hd : m.dl.length ≤ 2000000) (hml : m.ml.length ≤ 2000000) : FnC Try.prog 6 #[.agg (mdC m).toArray, .int .i64 from_, .int .i64 nn] w fun v w' => v = .bool true ∧ Later w w' := by
  refine enter6 _ _ _ ?_
  unfold B6
  have eca : (Value.agg (mdC m).toArray).cells = (mdC m).toArray := rfl
  obtain ⟨kb, hkb⟩ : ∃ kb, kb = w.heap.size := ⟨_, rfl⟩
  have la := later_alloc w (.cells (mdC m).toArray 34)
  have Ba := Blk.new w (mdC m).toArray 34
  rw [← hkb] at Ba
  generalize hwa : w.alloc (.cells (mdC m).toArray 34) = wa at *
  repeat' (first | (simp (disch := omega) only [push_cast, ↓reduceIte, zA, zG, zB, zH, zI, zC, zJ, zK, zL, zD, zE, zF, zM, zN, zO, zP, zQ, reduceCtorEq, not_true_eq_false, not_false_eq_true, eca, hwa, ← hkb]) | (first | refine iE ?_ ?_ | refine iD ?_ ?_ | refine iQ ?_ ?_ | refine iV ?_ ?_) <;> intro _ | refine And.intro (by omega) ?_ | fail)
  clear hwa hkb
  have FF : ∀ w', Later wa w' → cellsAt w' ⟨kb, 0, none⟩ 12 = some (mdC m) ∧ cellsAt w' ⟨kb, 0, none⟩ 2 = some [m.dv, m.mv] ∧ cellsAt w' ⟨kb, 2, none⟩ 3 = some (pdC m.p) ∧ w'.cell? ⟨kb, 2, none⟩ = some m.p.tv ∧ w'.cell? ⟨kb, 6, none⟩ = some m.ev ∧ w'.cell? ⟨kb, 9, none⟩ = some m.fv := by
    intro w' hl
    have B := mdLater Ba hl
    obtain ⟨h0, h1, h3, _, h5, _, _, h8, _⟩ := mdAt B
    refine ⟨Blk.cellsAt (l := mdC m) B, ?_, h3, B.cell 2, h5, h8⟩
    refine cellsAt_of 2 _ _ rfl fun i x hx => ?_
    rw [addr_add_eq]
    match i, hx with
    | 0, hx => cases hx; exact h0
    | 1, hx => cases hx; exact h1
    | n + 2, hx => exact absurd hx (by simp)
  obtain ⟨g1, g2, g3, g4, g5, g6⟩ := FF wa (Later.refl _)
  repeat' (first | (simp (disch := omega) only [push_cast, ↓reduceIte, zA, zG, zB, zH, zI, zC, zJ, zK, zL, zD, zE, zF, zM, zN, zO, zP, zQ, reduceCtorEq, not_true_eq_false, not_false_eq_true, g1]) | (first | refine iE ?_ ?_ | refine iD ?_ ?_ | refine iQ ?_ ?_ | refine iV ?_ ?_) <;> intro _ | refine And.intro (by omega) ?_ | fail)
  refine (fits20_c m wa (hm.later la)).mono ?_
  rintro _ wb ⟨rfl, lb⟩
  have l0b := la.trans lb
  obtain ⟨g1, g2, g3, g4, g5, g6⟩ := FF wb lb
  repeat' (first | (simp (disch := omega) only [push_cast, ↓reduceIte, zA, zG, zB, zH, zI, zC, zJ, zK, zL, zD, zE, zF, zM, zN, zO, zP, zQ, reduceCtorEq, not_true_eq_false, not_false_eq_true, g1]) | (first | refine iE ?_ ?_ | refine iD ?_ ?_ | refine iQ ?_ ?_ | refine iV ?_ ?_) <;> intro _ | refine And.intro (by omega) ?_ | fail)
  refine (right20_c m wb (hm.later l0b) hd hml).mono ?_
  rintro _ wc ⟨⟨b, rfl, hb⟩, lc⟩
  have lac := lb.trans lc
  have l0c := la.trans lac
  have dead : ∀ w', Later wc w' → FnC Try.prog 11 #[] w' fun v w'' => v = .bool true ∧ Later w w'' := fun w' hl => (alive26_c w').mono fun v w'' h => ⟨h.1, (l0c.trans hl).trans h.2⟩
  cases h20 : f20 m with
  | false =>
    repeat' (first | (simp (disch := omega) only [push_cast, ↓reduceIte, zA, zG, zB, zH, zI, zC, zJ, zK, zL, zD, zE, zF, zM, zN, zO, zP, zQ, reduceCtorEq, not_true_eq_false, not_false_eq_true]) | (first | refine iE ?_ ?_ | refine iD ?_ ?_ | refine iQ ?_ ?_ | refine iV ?_ ?_) <;> intro _ | refine And.intro (by omega) ?_ | fail)
    refine (dead wc (Later.refl _)).mono ?_
    rintro _ wd ⟨rfl, ld⟩
    repeat' (first | (simp (disch := omega) only [push_cast, ↓reduceIte, zA, zG, zB, zH, zI, zC, zJ, zK, zL, zD, zE, zF, zM, zN, zO, zP, zQ, reduceCtorEq, not_true_eq_false, not_false_eq_true]) | (first | refine iE ?_ ?_ | refine iD ?_ ?_ | refine iQ ?_ ?_ | refine iV ?_ ?_) <;> intro _ | refine And.intro (by omega) ?_ | refine drawn_q ?_ | fail)
    first | exact ⟨rfl, ld⟩ | exact ld
  | true =>
  cases b with
  | false =>
    repeat' (first | (simp (disch := omega) only [push_cast, ↓reduceIte, zA, zG, zB, zH, zI, zC, zJ, zK, zL, zD, zE, zF, zM, zN, zO, zP, zQ, reduceCtorEq, not_true_eq_false, not_false_eq_true]) | (first | refine iE ?_ ?_ | refine iD ?_ ?_ | refine iQ ?_ ?_ | refine iV ?_ ?_) <;> intro _ | refine And.intro (by omega) ?_ | fail)
    refine (dead wc (Later.refl _)).mono ?_
    rintro _ wd ⟨rfl, ld⟩
    repeat' (first | (simp (disch := omega) only [push_cast, ↓reduceIte, zA, zG, zB, zH, zI, zC, zJ, zK, zL, zD, zE, zF, zM, zN, zO, zP, zQ, reduceCtorEq, not_true_eq_false, not_false_eq_true]) | (first | refine iE ?_ ?_ | refine iD ?_ ?_ | refine iQ ?_ ?_ | refine iV ?_ ?_) <;> intro _ | refine And.intro (by omega) ?_ | refine drawn_q ?_ | fail)
    first | exact ⟨rfl, ld⟩ | exact ld
  | true =>
  have hr := hb rfl
  have ktl := hr.pl.n
  have kel := hr.ln
  obtain ⟨n, hn⟩ : ∃ n, m.p.tl.length = n + 1 := ⟨m.p.tl.length - 1, by omega⟩
  have hen : m.el.length = n + 1 := by omega
  obtain ⟨g1, g2, g3, g4, g5, g6⟩ := FF wc lac
  obtain ⟨to, tc, htv, ht1, ht2⟩ := RecS.slice hm.p.tv
  obtain ⟨eo, ec, hev, he1, he2, he, he0⟩ := hm.ev.openM
  rw [htv, hn] at g4
  rw [hev, hen] at g5
  have hni : n < m.p.tl.length := by omega
  have h4 := hm.p.tv
  rw [htv] at h4
  have h4c := h4.later l0c
  obtain ⟨ta, rfl, _⟩ := RecS.at cdC_len h4c hni
  have t1 : wc.cell? ((ta.add (n * 3)).add 1) = some (.int .i64 m.p.tl[n].g) := RecS.cell (j := 1) cdC_len h4c hni rfl
  obtain ⟨ea, rfl, ef⟩ := int_at (Sl.later he l0c) (i := n) (by omega)
  have tn : ((n + 1 : Nat) : Int) - 1 = (n : Int) := by omega
  have tn1 : (n : Int) + 1 - 1 = (n : Int) := by omega
  have tn2 : ((n : Int)).toNat = n := Int.toNat_natCast _
  have hgr := (hr.pl.tier n hni).1
  have hgb : 1 ≤ m.p.tl[n].g ∧ m.p.tl[n].g ≤ 1048576 := by
    unfold grOk at hgr
    simp only [Bool.and_eq_true, decide_eq_true_eq] at hgr
    exact hgr
  obtain ⟨g, hgd⟩ : ∃ g, g = m.p.tl[n].g := ⟨_, rfl⟩
  rw [← hgd] at t1 hgb
  obtain ⟨last, hlast⟩ : ∃ last, last = m.el.getD n 0 := ⟨_, rfl⟩
  rw [← hlast] at ef
  repeat' (first | (simp (disch := omega) only [push_cast, ↓reduceIte, zA, zG, zB, zH, zI, zC, zJ, zK, zL, zD, zE, zF, zM, zN, zO, zP, zQ, reduceCtorEq, not_true_eq_false, not_false_eq_true, g4, g5, t1, ef, tn, tn1, tn2, addr_add_eq, Nat.zero_add]) | (first | refine iE ?_ ?_ | refine iD ?_ ?_ | refine iQ ?_ ?_ | refine iV ?_ ?_) <;> intro _ | refine And.intro (by omega) ?_ | fail)
  refine vc_loop W6_0 (fun i : Nat => [(11, .int .i64 (i : Int))]) (fun i w' => i ≤ n + 1 ∧ Later wc w' ∧ ∀ j, j < i → ∃ h2 : min (j + 1) n < m.p.tl.length, m.p.tl[min (j + 1) n].g ∣ m.el.getD j 0) (fun i => n + 1 - i) 0 (by decide) ?_ ?_ ?_
  · simp (disch := omega) only [push_cast, ↓reduceIte, zA, zG, zB, zH, zI, zC, zJ, zK, zL, zD, zE, zF, zM, zN, zO, zP, zQ, reduceCtorEq, not_true_eq_false, not_false_eq_true]
    try rfl
  · exact ⟨Nat.zero_le _, Later.refl _, fun j h => absurd h (Nat.not_lt_zero _)⟩
  rintro i uu wd ⟨hi, ld, hdv⟩
  have l0d := l0c.trans ld
  obtain ⟨g1, g2, g3, g4, g5, g6⟩ := FF wd (lac.trans ld)
  rw [htv, hn] at g4
  rw [hev, hen] at g5
  by_cases hik : i < n + 1
  · have hd2 : decide ((i : Int) < ((n + 1 : Nat) : Int)) = true := decide_eq_true (by omega)
    have hd2' : decide ((i : Int) < (n : Int) + 1) = true := decide_eq_true (by omega)
    have hmin : min ((i : Int) + 1) (n : Int) = ((min (i + 1) n : Nat) : Int) := by omega
    have hbi : min (i + 1) n < m.p.tl.length := by omega
    have h4d := h4.later l0d
    have t1 : wd.cell? ((ta.add (min (i + 1) n * 3)).add 1) = some (.int .i64 m.p.tl[min (i + 1) n].g) := RecS.cell (j := 1) cdC_len h4d hbi rfl
    obtain ⟨_, hea, ei⟩ := int_at (Sl.later he l0d) (i := i) (by omega)
    obtain rfl := Option.some.inj hea
    have hgi := (hr.pl.tier _ hbi).1
    have hgi1 : 1 ≤ m.p.tl[min (i + 1) n].g := by
      unfold grOk at hgi
      simp only [Bool.and_eq_true, decide_eq_true_eq] at hgi
      exact hgi.1
    have hne : ¬ m.p.tl[min (i + 1) n].g = 0 := by omega
    have hbl : decide (((min (i + 1) n : Nat) : Int) < ((n + 1 : Nat) : Int)) = true := decide_eq_true (by omega)
    have hmt := tm0 (m.el.getD i 0) m.p.tl[min (i + 1) n].g (by omega)
    generalize hG : m.p.tl[min (i + 1) n].g = G at *
    generalize hB : min (i + 1) n = bi at *
    have tb : ((bi : Nat) : Int).toNat = bi := Int.toNat_natCast _
    have hbn : (bi : Int) < (n : Int) + 1 := by omega
    repeat' (first | (simp (disch := omega) only [push_cast, ↓reduceIte, zA, zG, zB, zH, zI, zC, zJ, zK, zL, zD, zE, zF, zM, zN, zO, zP, zQ, reduceCtorEq, not_true_eq_false, not_false_eq_true, g5, hd2, hd2', tn, tn1, hmin, addr_add_eq, Nat.zero_add]) | (first | refine iE ?_ ?_ | refine iD ?_ ?_ | refine iQ ?_ ?_ | refine iV ?_ ?_) <;> intro _ | refine And.intro (by omega) ?_ | fail)
    refine drawn_q ?_
    repeat' (first | (simp (disch := omega) only [push_cast, ↓reduceIte, zA, zG, zB, zH, zI, zC, zJ, zK, zL, zD, zE, zF, zM, zN, zO, zP, zQ, reduceCtorEq, not_true_eq_false, not_false_eq_true, g4, g5, hd2, hd2', ei, t1, tb, hne, addr_add_eq, Nat.zero_add]) | (first | refine iE ?_ ?_ | refine iD ?_ ?_ | refine iQ ?_ ?_ | refine iV ?_ ?_) <;> intro _ | refine And.intro (by omega) ?_ | fail)
    intro we le
    refine iD (fun hc => ?_) (fun hc => ?_)
    · repeat' (first | (simp (disch := omega) only [push_cast, ↓reduceIte, zA, zG, zB, zH, zI, zC, zJ, zK, zL, zD, zE, zF, zM, zN, zO, zP, zQ, reduceCtorEq, not_true_eq_false, not_false_eq_true]) | (first | refine iE ?_ ?_ | refine iD ?_ ?_ | refine iQ ?_ ?_ | refine iV ?_ ?_) <;> intro _ | refine And.intro (by omega) ?_ | fail)
      refine (dead we (ld.trans le)).mono ?_
      rintro _ wf ⟨rfl, lf⟩
      repeat' (first | (simp (disch := omega) only [push_cast, ↓reduceIte, zA, zG, zB, zH, zI, zC, zJ, zK, zL, zD, zE, zF, zM, zN, zO, zP, zQ, reduceCtorEq, not_true_eq_false, not_false_eq_true]) | (first | refine iE ?_ ?_ | refine iD ?_ ?_ | refine iQ ?_ ?_ | refine iV ?_ ?_) <;> intro _ | refine And.intro (by omega) ?_ | refine drawn_q ?_ | fail)
      first | exact ⟨rfl, lf⟩ | exact lf
    · have hz : m.el.getD i 0 % G = 0 := hmt.1 (Decidable.not_not.1 hc)
      repeat' (first | (simp (disch := omega) only [push_cast, ↓reduceIte, zA, zG, zB, zH, zI, zC, zJ, zK, zL, zD, zE, zF, zM, zN, zO, zP, zQ, reduceCtorEq, not_true_eq_false, not_false_eq_true]) | (first | refine iE ?_ ?_ | refine iD ?_ ?_ | refine iQ ?_ ?_ | refine iV ?_ ?_) <;> intro _ | refine And.intro (by omega) ?_ | fail)
      refine ⟨rfl, i + 1, by simp (disch := omega) only [push_cast, ↓reduceIte, zA, zG, zB, zH, zI, zC, zJ, zK, zL, zD, zE, zF, zM, zN, zO, zP, zQ, reduceCtorEq, not_true_eq_false, not_false_eq_true], ⟨by omega, ld.trans le, fun j hj => ?_⟩, by dsimp only; omega⟩
      rcases Nat.lt_succ_iff_lt_or_eq.1 hj with h | h
      · exact hdv j h
      · subst h
        refine ⟨by omega, ?_⟩
        subst hB
        rw [hG]
        exact Int.dvd_of_emod_eq_zero hz
  have hd2 : decide ((i : Int) < ((n + 1 : Nat) : Int)) = false := decide_eq_false (by omega)
  have hd2' : decide ((i : Int) < (n : Int) + 1) = false := decide_eq_false (by omega)
  obtain ⟨a0, a1⟩ := and_small from_ 1023 (by decide)
  obtain ⟨b0, b1⟩ := and_small nn 255 (by decide)
  rw [show ((1023 : Nat) : Int) = 1023 from rfl] at a0 a1
  rw [show ((255 : Nat) : Int) = 255 from rfl] at b0 b1
  generalize hA : bitI .and .i64 from_ 1023 = A at *
  generalize hBq : bitI .and .i64 nn 255 = Bq at *
  have p1 := Int.mul_nonneg (show (0 : Int) ≤ g by omega) a0
  have p2 : g * A ≤ 1048576 * 1023 := Int.mul_le_mul hgb.2 a1 a0 (by omega)
  have p3 : 0 < g * (1 + Bq) := Int.mul_pos (by omega) (by omega)
  have p4 : g * (1 + Bq) ≤ 1048576 * 256 := Int.mul_le_mul hgb.2 (by omega) (by omega) (by omega)
  have wA : IntKind.i64.wrap (g * A) = g * A := by generalize g * A = x at *; simp (disch := omega) only [push_cast, ↓reduceIte, zA, zG, zB, zH, zI, zC, zJ, zK, zL, zD, zE, zF, zM, zN, zO, zP, zQ, reduceCtorEq, not_true_eq_false, not_false_eq_true]
  have wB : IntKind.i64.wrap (1 + Bq) = 1 + Bq := by simp (disch := omega) only [push_cast, ↓reduceIte, zA, zG, zB, zH, zI, zC, zJ, zK, zL, zD, zE, zF, zM, zN, zO, zP, zQ, reduceCtorEq, not_true_eq_false, not_false_eq_true]
  have wC : IntKind.i64.wrap (g * (1 + Bq)) = g * (1 + Bq) := by generalize g * (1 + Bq) = x at *; simp (disch := omega) only [push_cast, ↓reduceIte, zA, zG, zB, zH, zI, zC, zJ, zK, zL, zD, zE, zF, zM, zN, zO, zP, zQ, reduceCtorEq, not_true_eq_false, not_false_eq_true]
  have wD : IntKind.i64.wrap (g * A + g * (1 + Bq)) = g * A + g * (1 + Bq) := by generalize g * (1 + Bq) = x at *; generalize g * A = y at *; simp (disch := omega) only [push_cast, ↓reduceIte, zA, zG, zB, zH, zI, zC, zJ, zK, zL, zD, zE, zF, zM, zN, zO, zP, zQ, reduceCtorEq, not_true_eq_false, not_false_eq_true]
  obtain ⟨kt, hkt⟩ : ∃ kt, kt = wd.heap.size := ⟨_, rfl⟩
  have lt := later_alloc wd (.cells (tdC ⟨0, ⟨#[]⟩⟩).toArray 63)
  have Bt := Blk.new wd (tdC ⟨0, ⟨#[]⟩⟩).toArray 63
  have st : (wd.alloc (.cells (tdC ⟨0, ⟨#[]⟩⟩).toArray 63)).heap.size = kt + 1 := by rw [World.size_alloc, hkt]
  rw [← hkt] at Bt
  have ht0 : (tdC ⟨0, ⟨#[]⟩⟩).toArray = #[.int .i64 0, .string ⟨#[]⟩] := rfl
  rw [ht0] at lt Bt st
  have htt := RecS.lit1 (enc := tdC) (k := 2) (y := ⟨0, ⟨#[]⟩⟩) rfl Bt
  generalize hwe : wd.alloc (.cells #[.int .i64 0, .string ⟨#[]⟩] 63) = we at *
  repeat' (first | (simp (disch := omega) only [push_cast, ↓reduceIte, zA, zG, zB, zH, zI, zC, zJ, zK, zL, zD, zE, zF, zM, zN, zO, zP, zQ, reduceCtorEq, not_true_eq_false, not_false_eq_true, g5, hd2, hd2', tn, tn1, hA, wA, ← hkt, hwe, addr_add_eq, Nat.zero_add]) | (first | refine iE ?_ ?_ | refine iD ?_ ?_ | refine iQ ?_ ?_ | refine iV ?_ ?_) <;> intro _ | refine And.intro (by omega) ?_ | fail)
  refine vStore_new rfl rfl ?_ ?_
  · exact List.all_eq_true.1 (show (qdC (witQ (.slice (some ⟨kt, 0, none⟩) 1 1) g (g * A) 0)).all Value.oneCell' = true from rfl)
  have lq := later_alloc we (.cells (qdC (witQ (.slice (some ⟨kt, 0, none⟩) 1 1) g (g * A) 0)).toArray 42)
  have Bq0 := Blk.new we (qdC (witQ (.slice (some ⟨kt, 0, none⟩) 1 1) g (g * A) 0)).toArray 42
  rw [st] at Bq0
  have hq0 : (qdC (witQ (.slice (some ⟨kt, 0, none⟩) 1 1) g (g * A) 0)).toArray = #[.slice (some ⟨kt, 0, none⟩) 1 1, .int .i64 (g * A), .int .i64 0, .int .i64 g, .slice none 0 0, .int .i64 0, .string ⟨#[]⟩, .string ⟨#[]⟩, .slice none 0 0, .slice none 0 0, .int .i64 0, .int .i64 0] := rfl
  have c1 := Bq0.cell 1
  have c2 := Bq0.cell 2
  have lq2 := lq.setCell (a := ⟨kt + 1, 2, none⟩) (show we.heap.size ≤ kt + 1 by omega) (.int .i64 (g * A + g * (1 + Bq)))
  have Bq2 := Bq0.setL (i := 2) (.int .i64 (g * A + g * (1 + Bq)))
  have fz := Bq0.frozen 2
  rw [hq0] at c1 c2 lq2 Bq0 fz lq Bq2
  generalize hwf : we.alloc (.cells #[.slice (some ⟨kt, 0, none⟩) 1 1, .int .i64 (g * A), .int .i64 0, .int .i64 g, .slice none 0 0, .int .i64 0, .string ⟨#[]⟩, .string ⟨#[]⟩, .slice none 0 0, .slice none 0 0, .int .i64 0, .int .i64 0] 42) = wf at *
  have c1 : wf.cell? ⟨kt + 1, 1, none⟩ = some (.int .i64 (g * A)) := c1
  have c2 : wf.cell? ⟨kt + 1, 2, none⟩ = some (.int .i64 0) := c2
  repeat' (first | (simp (disch := omega) only [push_cast, ↓reduceIte, zA, zG, zB, zH, zI, zC, zJ, zK, zL, zD, zE, zF, zM, zN, zO, zP, zQ, reduceCtorEq, not_true_eq_false, not_false_eq_true, hwf, st, c1, c2, fz, hBq, wB, wC, wD, addr_add_eq, Nat.zero_add]) | (first | refine iE ?_ ?_ | refine iD ?_ ?_ | refine iQ ?_ ?_ | refine iV ?_ ?_) <;> intro _ | refine And.intro (by omega) ?_ | fail)
  have htt2 := (htt.later lq2)
  have lwg := lt.trans lq2
  clear hwf c1 c2 fz lq lq2 Bq0
  generalize wf.setCell ⟨kt + 1, 2, none⟩ (.int .i64 (g * A + g * (1 + Bq))) = wg at *
  have Bq3 : Blk wg (kt + 1) (qdC (witQ (.slice (some ⟨kt, 0, none⟩) 1 1) g (g * A) (g * A + g * (1 + Bq)))).toArray 42 := Bq2
  clear Bq2
  have ldg := ld.trans lwg
  have l0g := l0c.trans ldg
  have hE := all_el (m := m) hr hn (g := g) (a := A) (b := 1 + Bq) (tv := .slice (some ⟨kt, 0, none⟩) 1 1) hgd (fun j hj => hdv j (by omega))
  have hqok : (witQ (.slice (some ⟨kt, 0, none⟩) 1 1) g (g * A) (g * A + g * (1 + Bq))).Ok wg := by
    refine witQ_ok htt2 ?_ ?_ ?_
    all_goals (generalize g * (1 + Bq) = x at *; generalize g * A = y at *; constructor <;> omega)
  have hqin : QIn m.dl (witQ (.slice (some ⟨kt, 0, none⟩) 1 1) g (g * A) (g * A + g * (1 + Bq))) := by
    have h6 := hr.sc.2.2.2.1
    exact ⟨(show (1 : Nat) ≤ 1000000 by decide), (show (0 : Nat) ≤ 1000 by decide), by omega, .inr (by show Rt g; unfold Rt; omega)⟩
  have hch := strL_ch (fr := g * A) (to := g * A + g * (1 + Bq)) (el := m.el) (by omega) hr.fall n (by omega)
  rw [← hn, ← hlast] at hch
  have hemp := hch.emp
  have hrun := choose_c m.dv m.mv m.dl m.ml m.p m.ev m.el _ m.fv m.fl wg (mdSc hm l0g) (hm.p.later l0g) (Sl.later hm.ev l0g) hm.el hqok (hm.fv.later l0g) hm.fl kel hr.fall (by omega) hqin (by have := hr.fn; omega) hr.fi.j
  have eqq : strL (witQ (.slice (some ⟨kt, 0, none⟩) 1 1) g (g * A) (g * A + g * (1 + Bq))).fr (witQ (.slice (some ⟨kt, 0, none⟩) 1 1) g (g * A) (g * A + g * (1 + Bq))).to m.el m.p.tl.length = strL (g * A) (g * A + g * (1 + Bq)) m.el m.p.tl.length := rfl
  rw [eqq, chooseR_good hE] at hrun
  have G2 : wg.cell? ⟨kt + 1, 2, none⟩ = some (.int .i64 (g * A + g * (1 + Bq))) := Bq3.cell 2
  have Gq0 := Blk.cellsAt (l := qdC (witQ (.slice (some ⟨kt, 0, none⟩) 1 1) g (g * A) (g * A + g * (1 + Bq)))) Bq3
  have Gq : cellsAt wg ⟨kt + 1, 0, none⟩ 12 = _ := Gq0
  clear Gq0
  have hsl : (strL (g * A) (g * A + g * (1 + Bq)) m.el m.p.tl.length).length ≤ m.p.tl.length := strL_len _ _ _ _
  generalize strL (g * A) (g * A + g * (1 + Bq)) m.el m.p.tl.length = L at *
  generalize witQ (.slice (some ⟨kt, 0, none⟩) 1 1) g (g * A) (g * A + g * (1 + Bq)) = Q at *
  obtain ⟨q1, q2, q3, q4, q5, q6⟩ := FF wg (lac.trans ldg)
  repeat' (first | (simp (disch := omega) only [push_cast, ↓reduceIte, zA, zG, zB, zH, zI, zC, zJ, zK, zL, zD, zE, zF, zM, zN, zO, zP, zQ, reduceCtorEq, not_true_eq_false, not_false_eq_true, q2, q3, q5, q6, Gq, hev, addr_add_eq, Nat.zero_add]) | (first | refine iE ?_ ?_ | refine iD ?_ ?_ | refine iQ ?_ ?_ | refine iV ?_ ?_) <;> intro _ | refine And.intro (by omega) ?_ | fail)
  rw [hev] at hrun
  refine hrun.mono ?_
  rintro _ wh ⟨⟨lv, rfl, hlv⟩, lh⟩
  dsimp only at hlv
  obtain ⟨po, pc, rfl, hp1, hp2⟩ := RecS.slice hlv
  rw [List.length_map] at hp1
  repeat' (first | (simp (disch := omega) only [push_cast, ↓reduceIte, zA, zG, zB, zH, zI, zC, zJ, zK, zL, zD, zE, zF, zM, zN, zO, zP, zQ, reduceCtorEq, not_true_eq_false, not_false_eq_true, List.length_map]) | (first | refine iE ?_ ?_ | refine iD ?_ ?_ | refine iQ ?_ ?_ | refine iV ?_ ?_) <;> intro _ | refine And.intro (by omega) ?_ | fail)
  refine (alive26_c wh).mono ?_
  rintro _ wi ⟨rfl, li⟩
  have G3 := (lh.trans li).cell G2
  have hc : decide ((0 : Int) < (L.length : Int)) = decide (last < g * A + g * (1 + Bq)) := decide_eq_decide.2 (by omega)
  repeat' (first | (simp (disch := omega) only [push_cast, ↓reduceIte, zA, zG, zB, zH, zI, zC, zJ, zK, zL, zD, zE, zF, zM, zN, zO, zP, zQ, reduceCtorEq, not_true_eq_false, not_false_eq_true, List.length_map, G3, hc, decide_true, beq_self_eq_true, addr_add_eq, Nat.zero_add]) | (first | refine iE ?_ ?_ | refine iD ?_ ?_ | refine iQ ?_ ?_ | refine iV ?_ ?_) <;> intro _ | refine And.intro (by omega) ?_ | fail)
  first | exact ⟨rfl, (l0g.trans (lh.trans li))⟩ | exact (l0g.trans (lh.trans li))
theorem own : ownKnob Try.prog.godebug = none := by kernel_rfl
theorem lifted (os : Os) (started : os.Started) (H : Type) (enc : TypeId × Value → H) (F : Stop.Interp) :
    ReturnsInHanded {} Try.checked os 6 .any ((Rows.OpenSpec.upto Rows.selectorWitnessSpec).pre6 enc Try.prog Try.f6 Rows.selectorWitnessUptoRow.domain false) (((Rows.OpenSpec.upto Rows.selectorWitnessSpec).at F).post enc Try.prog Try.f6 false true false false) := by
  refine lifted_laterU own started (by kernel_rfl) Try.func6 hb6
    (OpenSpec.witness (enc := enc) (C := Try.checked) (s := Rows.OpenSpec.upto Rows.selectorWitnessSpec) (k := Rows.uptoSmall) rfl false ⟨#[], #[.agg #[.slice none 0 0, .slice none 0 0, .slice none 0 0, .slice none 0 0, .int .i64 0, .int .i64 0, .slice none 0 0, .int .i64 0, .slice none 0 0, .slice none 0 0, .string ⟨#[]⟩, .int .i64 0], .int .i64 0, .int .i64 0], []⟩ 20 (by kernel_rfl) (by kernel_rfl) (by kernel_rfl)
      (x := ([.agg [.agg [.nil, .nil], .agg [.nil, .nil, .lit (.int .i64 0)], .lit (.int .i64 0), .nil, .agg [.lit (.int .i64 0), .nil], .nil, .lit (.string []), .lit (.int .i64 0)], .lit (.int .i64 0), .lit (.int .i64 0)], [], [])) (by kernel_rfl) rfl (by kernel_rfl))
    (by kernel_rfl) (list_all (by kernel_rfl)) (by kernel_rfl) Try.underlying4 rfl ?_ ?_
  · intro ds h
    have h : ds.length = 3 := h
    match ds, h with
    | [_, _, _], _ => rfl
  · intro W base args ds p hval0 hz0 hbk hA0
    have hval : ∀ (j : Nat) t v, Try.f6.params[j]? = some t → args[j]? = some v → Value.okWide Try.prog W .any base t v := hval0
    have hz : ∀ (j : Nat) t d, Try.f6.params.toList[j]? = some t → ds[j]? = some d → Sz Try.prog t d := hz0
    have hA : DataW.TrodAll enc Try.prog W 0 (fun _ => true) true Try.f6.params.toList args.toList ds p := hA0
    rw [Try.params6] at hA hval hz
    obtain ⟨v0, vs0, d0, ds0, p0, q0, hargs, rfl, rfl, h0, r0⟩ := trodAll_cons hA
    obtain ⟨v1, vs1, d1, ds1, p1, q1, rfl, rfl, rfl, h1, r1⟩ := trodAll_cons r0
    obtain ⟨v2, vs2, d2, ds2, p2, q2, rfl, rfl, rfl, h2, r2⟩ := trodAll_cons r1
    obtain ⟨rfl, rfl, rfl⟩ := trodAll_nil r2
    obtain rfl : args = #[v0, v1, v2] := by cases args; simp_all
    simp only [Rows.uptoBulkAll] at hbk
    obtain ⟨cs0, e0, w0⟩ := openZ_agg ⟨_, Try.underlying34⟩ (fun _ => z_manifest) (hval 0 34 v0 rfl rfl) h0 (hz 0 _ _ rfl rfl)
    obtain ⟨a1, rfl, rfl, rfl, w1⟩ := open_int Try.underlying3 (hval 1 3 v1 rfl rfl) h1
    obtain ⟨a2, rfl, rfl, rfl, w2⟩ := open_int Try.underlying3 (hval 2 3 v2 rfl rfl) h2
    obtain ⟨m0, rfl, ok0⟩ := w0
    obtain ⟨b0, c0⟩ := bulk_manifest h0 e0 ok0
    subst e0
    exact law_c m0 a1 a2 W ok0 (i64_of_wf w1) (i64_of_wf w2) (by omega) (by omega)
theorem over : Rows.selectorWitnessUptoRow.holds Try.pinned (Rows.OpenSpec.upto Rows.selectorWitnessSpec) :=
  OpenClaim.holds_of_cond 6 Try.f6 rfl rfl rfl rfl rfl rfl rfl ⟨rfl, rfl, rfl, rfl, rfl⟩ rfl rfl rfl rfl rfl (by kernel_rfl) Try.func6 (by kernel_rfl)
    (of_decide_eq_true (by kernel_rfl)) (by unfold Func.isWrapper; first | (rw [if_pos (by decide +kernel)]; kernel_rfl) | (rw [if_neg (by decide +kernel)]; exact ⟨rfl, rfl⟩))
    (fun os started H enc _ F => lifted os started H enc F)
/-- The statement, in its second form. -/
theorem proved : Rows.SelectorWitnessUptoSaid :=
  over
end Go.Proofs.Ytnofalhkapmcnaa.selectorWitness
