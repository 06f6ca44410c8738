/- An entry's bytes: the document's. -/
import Derived.Test.YtcajkjbempagaaaPartI
set_option linter.all false
section
set_option linter.unusedSimpArgs false
namespace Go.Proofs.Ytcajkjbempagaaa
open Go.Vc Go.Zig Go.Key
set_option maxRecDepth 100000
theorem app8 {w w0 : World} {K : Value → World → Prop} {ty : TypeId} {v x : Value} {a b : List UInt8} (h : OwnB w w0.heap.size 5 v a) (hx : Sl w x (b.map u8v)) (hl : a.length + b.length ≤ 140737488355000) (h0 : Later w0 w)
    (hK : ∀ v' w', OwnB w' w0.heap.size 5 v' (a ++ b) → Later w0 w' → K v' w') : vAppend Try.prog #[25, 25] ty #[v, x] K w := by
  refine vAppend_own Try.underlying25 ti5 rfl (by decide) h (sl8_n hx) (u8vs_one _) (by unfold maxLen; omega) (by omega) h0.size ?_
  intro u w5 hu gu _
  exact hK u w5 (own8_app hu) (h0.appended h (Nat.le_refl _) gu)
set_option maxHeartbeats 2000000 in
theorem dencode_c (dv mv : Value) (d m : List ByteArray) (x : Ej) (w : World) (h : ScIs w dv mv d m) (hx : EjIs w x) (hz : StZ x.e.d) (h1 : x.e.d.length ≤ 1000000) (h2 : x.e.k.length ≤ 1000000) : FnC Try.prog 59 #[scV dv mv, .agg (ejC x).toArray] w fun r w' => EncR w' w.heap.size r d.length m.length x.e ∧ Later w w' := by
  unfold scV
  refine enter59 _ _ ?_
  unfold B59
  obtain ⟨l2, s1, s2, F, B⟩ := boxSJ w dv mv x
  have eca : (Value.agg #[dv, mv]).cells = #[dv, mv] := rfl
  have ecb : (Value.agg (ejC x).toArray).cells = (ejC x).toArray := rfl
  repeat' (first | (simp (disch := omega) only [push_cast, seval, eca, ecb, s1, s2]) | refine iX ?_ ?_ <;> intros | refine aI (by omega) ?_ | fail)
  generalize ((w.alloc (.cells #[dv, mv] 24)).alloc (.cells (ejC x).toArray 43)) = w2 at *
  obtain ⟨f0, f1, f2⟩ := F w2 (Later.refl _)
  obtain ⟨g0, g1, g2, g3, g4, g5, g6⟩ := ejAt B w2 (Later.refl _)
  repeat' (first | (simp (disch := omega) only [push_cast, seval, f2, g6]) | refine iX ?_ ?_ <;> intros | refine aI (by omega) ?_ | refine dq ?_)
  refine (dRight_c dv mv d m x w2 (h.later l2) (hx.later l2) hz).mono ?_
  rintro _ w3 ⟨rfl, l3⟩
  have l03 := l2.trans l3
  unfold EncR
  cases hr : rgE d.length m.length x.e with
  | false =>
    repeat' (first | (simp (disch := omega) only [push_cast, seval]) | refine iX ?_ ?_ <;> intros | refine aI (by omega) ?_ | refine dq ?_)
    first | exact ⟨(by simp), l03⟩ | exact l03
  | true =>
  have hr' := hr
  unfold rgE at hr'
  obtain ⟨g0, g1, g2, g3, g4, g5, g6⟩ := ejAt B w3 l3
  have hB3 := l03.size
  cases ht : x.e.tick with
  | true =>
    rw [ht] at g0 hr'
    rw [if_pos rfl] at hr'
    simp only [Bool.and_eq_true, decide_eq_true_eq] at hr'
    have hn : I64 x.e.now := by unfold I64; omega
    have h1z : I64 1 := by unfold I64; omega
    have z1 := zi_len h1z
    have z2 := zi_len hn
    repeat' (first | (simp (disch := omega) only [push_cast, seval, g0, addr_add_eq, Nat.zero_add]) | refine iX ?_ ?_ <;> intros | refine aI (by omega) ?_ | fail)
    refine drawn_k 3 ?_
    repeat' (first | (simp (disch := omega) only [push_cast, seval, g0, g1, addr_add_eq, Nat.zero_add]) | refine iX ?_ ?_ <;> intros | refine aI (by omega) ?_ | fail)
    refine NFn.of hb61 (fun v w' => OwnB w' w3.heap.size 5 v (zi 1)) (stb_own8 _ _ _) (fun w' hl => ?_) ?_
    · refine (rInt_c 1 w' h1z).mono fun v w'' hv => ⟨OwnB.base hv.1 hl.size, hv.2⟩
    repeat' (first | (simp (disch := omega) only [push_cast, seval, g0, g1, addr_add_eq, Nat.zero_add]) | refine iX ?_ ?_ <;> intros | refine aI (by omega) ?_ | fail)
    rintro w4 l4 v17 h17
    repeat' (first | (simp (disch := omega) only [push_cast, seval]) | refine iX ?_ ?_ <;> intros | refine aI (by omega) ?_ | refine dq ?_)
    refine (rInt_c x.e.now w4 hn).mono ?_
    rintro v5 w5 ⟨h5, l5⟩
    have h17 := OwnB.later h17 l5
    obtain ⟨o17, c17, rfl⟩ := h17.slice
    obtain ⟨o5, c5, rfl⟩ := h5.slice
    repeat' (first | (simp (disch := omega) only [push_cast, seval]) | refine iX ?_ ?_ <;> intros | refine aI (by omega) ?_ | refine dq ?_)
    refine app8 h17 (OwnB.sl h5) (by omega) (l4.trans l5) ?_
    intro v6 w6 h6 l6
    repeat' (first | (simp (disch := omega) only [push_cast, seval]) | refine iX ?_ ?_ <;> intros | refine aI (by omega) ?_ | refine dq ?_)
    refine ⟨.inr ⟨_, rfl, ?_⟩, l03.trans l6⟩
    have e : encE x.e = zi 1 ++ zi x.e.now := by unfold encE; rw [ht, if_pos rfl]
    rw [e]
    exact OwnB.base h6 hB3
  | false =>
    rw [ht] at g0 hr'
    rw [if_neg (by simp)] at hr'
    simp only [Bool.and_eq_true, decide_eq_true_eq] at hr'
    obtain ⟨_, hev⟩ := hr'
    obtain ⟨k1, k2, k3, k4, k5, k6⟩ := evOk_iff.1 hev
    have hn : I64 x.e.t := by unfold I64; omega
    have h0z : I64 0 := by unfold I64; omega
    have z0 := zi_len h0z
    have zt := zi_len hn
    have tl := tx_len k3
    have kl := ki_len k4
    obtain ⟨od, cd, hdv⟩ := Sl.slice hx.dS
    obtain ⟨ok, ck, hkv⟩ := Sl.slice hx.kS
    rw [List.length_map] at hdv hkv
    have hdS := hx.dS.later l03
    have hkS := hx.kS.later l03
    rw [hdv] at hdS
    rw [hkv] at hkS
    have e : encE x.e = (zi 0 ++ zi x.e.t) ++ x.e.d.flatMap txE ++ x.e.k.flatMap zi := by unfold encE; rw [ht, if_neg (by simp)]
    repeat' (first | (simp (disch := omega) only [push_cast, seval, g0, addr_add_eq, Nat.zero_add]) | refine iX ?_ ?_ <;> intros | refine aI (by omega) ?_ | fail)
    refine drawn_k 4 ?_
    repeat' (first | (simp (disch := omega) only [push_cast, seval, g0, g1, g2, addr_add_eq, Nat.zero_add]) | refine iX ?_ ?_ <;> intros | refine aI (by omega) ?_ | fail)
    refine NFn.of hb61 (fun v w' => OwnB w' w3.heap.size 5 v (zi 0)) (stb_own8 _ _ _) (fun w' hl => ?_) ?_
    · refine (rInt_c 0 w' h0z).mono fun v w'' hv => ⟨OwnB.base hv.1 hl.size, hv.2⟩
    repeat' (first | (simp (disch := omega) only [push_cast, seval, g0, g1, g2, addr_add_eq, Nat.zero_add]) | refine iX ?_ ?_ <;> intros | refine aI (by omega) ?_ | fail)
    rintro w4 l4 v22 h22
    repeat' (first | (simp (disch := omega) only [push_cast, seval]) | refine iX ?_ ?_ <;> intros | refine aI (by omega) ?_ | refine dq ?_)
    refine (rInt_c x.e.t w4 hn).mono ?_
    rintro v5 w5 ⟨h5, l5⟩
    have h22 := OwnB.later h22 l5
    obtain ⟨o22, c22, rfl⟩ := h22.slice
    obtain ⟨o5, c5, rfl⟩ := h5.slice
    repeat' (first | (simp (disch := omega) only [push_cast, seval]) | refine iX ?_ ?_ <;> intros | refine aI (by omega) ?_ | refine dq ?_)
    refine app8 h22 (OwnB.sl h5) (by omega) (l4.trans l5) ?_
    intro v6 w6 h6 l6
    have E : ∀ w', Later w3 w' → w'.cell? ⟨w.heap.size + 1, 3, none⟩ = some (.slice od x.e.d.length cd) ∧ w'.cell? ⟨w.heap.size + 1, 4, none⟩ = some (.slice ok x.e.k.length ck) := fun w' hl => by
      obtain ⟨_, _, _, g3, g4, _, _⟩ := ejAt B w' (l3.trans hl)
      rw [hdv] at g3
      rw [hkv] at g4
      exact ⟨g3, g4⟩
    repeat' (first | (simp (disch := omega) only [push_cast, seval]) | refine iX ?_ ?_ <;> intros | refine aI (by omega) ?_ | refine dq ?_)
    refine vc_loop W59_0 (fun p : Nat × Value => [(7, p.2), (8, .int .i64 (p.1 : Int))])
      (fun p w' => p.1 ≤ x.e.d.length ∧ Later w3 w' ∧ OwnB w' w3.heap.size 5 p.2 ((zi 0 ++ zi x.e.t) ++ (x.e.d.take p.1).flatMap txE)) (fun p => x.e.d.length - p.1) (0, v6) (by decide) ?_ ?_ ?_
    · simp (disch := omega) only [push_cast, seval]
    · exact ⟨by omega, l6, by simpa using h6⟩
    rintro ⟨i, v⟩ uu w7 ⟨hi, l7, ho⟩
    dsimp only at hi ho
    obtain ⟨e3, e4⟩ := E w7 l7
    by_cases hlt : i < x.e.d.length
    · obtain ⟨a, rfl⟩ : ∃ a, od = some a := by
        cases od with
        | none => have := (Sl.len hdS).2.2.2 rfl; simp at this; rw [this.1] at hlt; simp at hlt
        | some a => exact ⟨a, rfl⟩
      have c0 := StS.atS (Sl.later hdS l7) hlt
      have hft := flat_take txE x.e.d i hlt
      have hv := (k3 _ (List.getElem_mem hlt)).2
      have ht2 := len_flat txE 34 (x.e.d.take i) fun y hy => by
        have g := (k3 y (List.mem_of_mem_take hy)).2
        have := zi_len (n := (y.size : Int)) (by unfold I64; omega)
        have hls : y.data.toList.length = y.size := rfl
        unfold txE
        rw [List.length_append]
        omega
      rw [List.length_take] at ht2
      generalize x.e.d[i] = s at *
      obtain ⟨oo, oc, rfl⟩ := ho.slice
      repeat' (first | (simp (disch := omega) only [push_cast, seval, e3, c0, addr_add_eq, Nat.zero_add]) | refine iX ?_ ?_ <;> intros | refine aI (by omega) ?_ | refine dq ?_)
      refine (rText_c s w7 (by omega)).mono ?_
      rintro v8 w8 ⟨h8, l8⟩
      have zs := zi_len (n := (s.size : Int)) (by unfold I64; omega)
      have hls : s.data.toList.length = s.size := rfl
      have ho8 := OwnB.later ho l8
      obtain ⟨o8, c8, rfl⟩ := h8.slice
      repeat' (first | (simp (disch := omega) only [push_cast, seval]) | refine iX ?_ ?_ <;> intros | refine aI (by omega) ?_ | refine dq ?_)
      refine app8 (w0 := w3) ho8 (OwnB.sl h8) (by simp only [List.length_append]; omega) (l7.trans l8) ?_
      intro v9 w9 h9 l9
      repeat' (first | (simp (disch := omega) only [push_cast, seval]) | refine iX ?_ ?_ <;> intros | refine aI (by omega) ?_ | refine dq ?_)
      refine ⟨rfl, (i + 1, v9), by simp (disch := omega) only [push_cast, seval], ⟨by dsimp only; omega, l9, ?_⟩, by dsimp only; omega⟩
      dsimp only
      rw [hft]
      have e2 : zi 0 ++ zi x.e.t ++ ((x.e.d.take i).flatMap txE ++ txE s) = zi 0 ++ zi x.e.t ++ (x.e.d.take i).flatMap txE ++ (zi s.size ++ s.data.toList) := by unfold txE; simp
      rw [e2]
      exact h9
    have hie : i = x.e.d.length := by omega
    subst hie
    rw [List.take_length] at ho
    repeat' (first | (simp (disch := omega) only [push_cast, seval, e3, addr_add_eq, Nat.zero_add]) | refine iX ?_ ?_ <;> intros | refine aI (by omega) ?_ | refine dq ?_)
    refine vc_loop W59_1 (fun p : Nat × Value => [(7, p.2), (9, .int .i64 (p.1 : Int))])
      (fun p w' => p.1 ≤ x.e.k.length ∧ Later w3 w' ∧ OwnB w' w3.heap.size 5 p.2 ((zi 0 ++ zi x.e.t) ++ x.e.d.flatMap txE ++ (x.e.k.take p.1).flatMap zi)) (fun p => x.e.k.length - p.1) (0, v) (by decide) ?_ ?_ ?_
    · simp (disch := omega) only [push_cast, seval]
    · exact ⟨by omega, l7, by simpa using ho⟩
    rintro ⟨i, v'⟩ uu w8 ⟨hi, l8, ho⟩
    dsimp only at hi ho
    obtain ⟨e3, e4⟩ := E w8 l8
    by_cases hlt : i < x.e.k.length
    · obtain ⟨a, rfl⟩ : ∃ a, ok = some a := by
        cases ok with
        | none => have := (Sl.len hkS).2.2.2 rfl; simp at this; rw [this.1] at hlt; simp at hlt
        | some a => exact ⟨a, rfl⟩
      have c0 := Sl.atI (Sl.later hkS l8) hlt
      have hft := flat_take zi x.e.k i hlt
      have hv := k4 _ (List.getElem_mem hlt)
      have ht2 := len_flat zi 10 (x.e.k.take i) fun y hy => (zi_len (n := y) (by have := k4 y (List.mem_of_mem_take hy); unfold I64; omega)).1
      rw [List.length_take] at ht2
      generalize x.e.k[i] = n at *
      obtain ⟨oo, oc, rfl⟩ := ho.slice
      repeat' (first | (simp (disch := omega) only [push_cast, seval, e4, c0, addr_add_eq, Nat.zero_add]) | refine iX ?_ ?_ <;> intros | refine aI (by omega) ?_ | refine dq ?_)
      have hn64 : I64 n := by unfold I64; omega
      have zn := zi_len hn64
      refine (rInt_c n w8 hn64).mono ?_
      rintro v9 w9 ⟨h9, l9⟩
      have ho9 := OwnB.later ho l9
      obtain ⟨o9, c9, rfl⟩ := h9.slice
      repeat' (first | (simp (disch := omega) only [push_cast, seval]) | refine iX ?_ ?_ <;> intros | refine aI (by omega) ?_ | refine dq ?_)
      refine app8 (w0 := w3) ho9 (OwnB.sl h9) (by simp only [List.length_append]; omega) (l8.trans l9) ?_
      intro v10 w10 h10 l10
      repeat' (first | (simp (disch := omega) only [push_cast, seval]) | refine iX ?_ ?_ <;> intros | refine aI (by omega) ?_ | refine dq ?_)
      refine ⟨rfl, (i + 1, v10), by simp (disch := omega) only [push_cast, seval], ⟨by dsimp only; omega, l10, ?_⟩, by dsimp only; omega⟩
      dsimp only
      rw [hft]
      have e2 : zi 0 ++ zi x.e.t ++ x.e.d.flatMap txE ++ ((x.e.k.take i).flatMap zi ++ zi n) = zi 0 ++ zi x.e.t ++ x.e.d.flatMap txE ++ (x.e.k.take i).flatMap zi ++ zi n := by simp
      rw [e2]
      exact h10
    have hie : i = x.e.k.length := by omega
    subst hie
    rw [List.take_length] at ho
    repeat' (first | (simp (disch := omega) only [push_cast, seval, e4, addr_add_eq, Nat.zero_add]) | refine iX ?_ ?_ <;> intros | refine aI (by omega) ?_ | refine dq ?_)
    refine ⟨.inr ⟨_, rfl, ?_⟩, l03.trans l8⟩
    rw [e]
    exact OwnB.base ho hB3
end Go.Proofs.Ytcajkjbempagaaa
end
section
namespace Go.Proofs.Ytcajkjbempagaaa
open Go.Vc
set_option maxRecDepth 100000
variable (Q : Post) (ds : List Deferred) (σ : Env) (w : World)
/-! 15 columbary/journal.Decode (params #[24, 25], results #[(.cell 4 43), (.tmp 5)], 78 slots) -/
@[push_cast] def W15_0 : List Nat := [30, 31, 32, 33, 34, 35, 36, 37, 38, 39, 40, 41]
@[push_cast] def W15_1 : List Nat := [45, 46, 47, 48, 49, 50, 51, 52, 53, 54, 55, 56]
abbrev r15_0 : List VOp :=
  [zBJ 2 24 0 0,
   zC 4 43,
   zF 5 0 29]
abbrev r15_1 : List VOp :=
  [mv 10 1 25,
   zBX 11 37 10 25 83,
   ⟨some 12, .build 86 #[(0, (.tmp 11)), (1, (.const (.bool true)))], 86, none⟩,
   zBJ 13 86 12 82,
   asg 6 13 82]
abbrev r15_2 : List VOp :=
  [zBL 14,
   zC 7 43,
   zB 43 7 14]
abbrev r15_3 : List VOp :=
  [mv 15 6 82,
   zBS 16 38 15 1 82 3,
   mv 17 6 82,
   zBS 18 38 17 1099511627776 82 3,
   asg 8 16 3,
   asg 9 18 3]
abbrev r15_4 : List VOp :=
  [mv 19 8 3,
   zM 20 3 19 1]
abbrev r15_5 : List VOp :=
  [mv 21 9 3,
   fad 22 43 7 0,
   zA 22,
   fad 23 43 7 1,
   zB 3 23 21]
abbrev r15_6 : List VOp :=
  [mv 24 9 3,
   fad 25 43 7 2,
   fad 26 41 25 0,
   zB 3 26 24]
abbrev r15_7 : List VOp :=
  [fad 27 24 2 0,
   lda 28 22 27,
   zBO 29 28 22,
   zCI 30]
abbrev r15_8 : List VOp :=
  [zY 31 30 29 0]
abbrev r15_9 : List VOp :=
  [fad 32 43 7 2,
   fad 33 41 32 1,
   lda 34 22 33,
   mv 35 6 82,
   zBX 36 39 35 82 9,
   zBM 37 22 36,
   zBN 38 34 37 22 22,
   fad 39 43 7 2,
   fad 40 41 39 1,
   zB 22 40 38]
abbrev r15_10 : List VOp :=
  [zK 41 30 1,
   mv 30 41 3]
abbrev r15_11 : List VOp :=
  [fad 42 24 2 1,
   lda 43 22 42,
   zBO 44 43 22,
   zCI 45]
abbrev r15_12 : List VOp :=
  [zY 46 45 44 0]
abbrev r15_13 : List VOp :=
  [fad 47 43 7 2,
   fad 48 41 47 2,
   lda 49 39 48,
   mv 50 6 82,
   ⟨some 51, .call ⟨.value (.func 38), #[(.tmp 50), (.const (.int .i64 (-4611686018427387904))), (.const (.int .i64 4611686018427387904))], #[82, 3, 3]⟩, 3, none⟩,
   zBM 52 39 51,
   zBN 53 49 52 39 39,
   fad 54 43 7 2,
   fad 55 41 54 2,
   zB 39 55 53]
abbrev r15_14 : List VOp :=
  [zK 56 45 1,
   mv 45 56 3]
abbrev r15_15 : List VOp :=
  [mv 57 6 82,
   zCL 58 57,
   fad 59 86 58 1,
   lda 60 4 59,
   zCR 61 60,
   mv 62 61 4,
   zCJ 63 6 82 62,
   zCM 64 63 62,
   zCB 65 86 64 0 62,
   zCG 66 83 65 62,
   zBY 67 40 66 83 3 62,
   zU 68 67 0 62,
   zCN 69 62 68,
   mv 70 69 4,
   zCG 71 24 2 70,
   zCG 72 43 7 70,
   ⟨some 73, .call ⟨.value (.func 34), #[.tmp 71, .tmp 72], #[24, 43]⟩, 4, some (70, false)⟩,
   zCS 74 73 70,
   zCN 75 70 74]
abbrev r15_16 : List VOp :=
  [zBL 76,
   zB 43 4 76,
   zF 5 191 29]
abbrev r15_17 : List VOp :=
  [lda 77 43 7,
   zB 43 4 77,
   zF 5 0 29]
def B15 : VC :=
  (.seq (.region r15_0) (.seq (.region r15_1) (.seq (.region r15_2) (.seq (.region r15_3) (.seq (.seq (.region r15_4) (.cond (.tmp 20) (.region r15_5) (.seq (.region r15_6) (.seq (.seq (.region r15_7) (.block 0 (.loop (.seq (.region r15_8) (.seq (.cond (.tmp 31) .skip (.exit 0)) (.seq (.block 1 (.drawA r15_9 5 [[], [0], [1], [], [3], [4], [2, 5, 4], [0, 1, 2, 3, 4, 5, 6], [7, 0, 1, 2, 3, 4, 5, 6], [8, 6, 6, 0, 1, 2, 3, 4, 5, 6]])) (.region r15_10))))))) (.seq (.region r15_11) (.block 2 (.loop (.seq (.region r15_12) (.seq (.cond (.tmp 46) .skip (.exit 2)) (.seq (.block 3 (.drawA r15_13 5 [[], [0], [1], [], [3], [4], [2, 5, 4], [0, 1, 2, 3, 4, 5, 6], [7, 0, 1, 2, 3, 4, 5, 6], [8, 6, 6, 0, 1, 2, 3, 4, 5, 6]])) (.region r15_14))))))))))) (.seq (.seq (.region r15_15) (.cond (.tmp 75) (.seq (.region r15_16) .ret) .skip)) (.seq (.region r15_17) .ret)))))))
theorem code15 : ∃ c, Try.f15.body = some c ∧ absT Try.f15.ntmps c = B15 := ⟨_, rfl, by kernel_rfl⟩
theorem hb15 : HasBody Try.prog 15 := hasBody_of Try.func15 (by kernel_rfl)
theorem enter15 (x0 x1 : Value) : Ent 15 B15 #[(.cell 4 43), (.tmp 5)] [x0, x1] := ent code15 hb15 Try.func15 rfl rfl
@[push_cast] theorem vr15_9 : vc Try.prog (.drawA r15_9 5 [[], [0], [1], [], [3], [4], [2, 5, 4], [0, 1, 2, 3, 4, 5, 6], [7, 0, 1, 2, 3, 4, 5, 6], [8, 6, 6, 0, 1, 2, 3, 4, 5, 6]]) Q ds σ w = drawnA Try.prog [⟨some 32, .fieldAddr 43 (.tmp 7) 2, 0, none⟩, ⟨some 33, .fieldAddr 41 (.tmp 32) 1, 0, none⟩, ⟨some 34, .load 22 (.tmp 33), 22, none⟩, ⟨some 35, .move (.tmp 6), 82, none⟩, ⟨some 36, .call ⟨.value (.func 39), #[.tmp 35], #[82]⟩, 9, none⟩, ⟨some 37, .buildSlice 22 1 #[(0, (.tmp 36))], 22, none⟩, ⟨some 38, .call ⟨.builtin .append, #[.tmp 34, .tmp 37], #[22, 22]⟩, 22, none⟩, ⟨some 39, .fieldAddr 43 (.tmp 7) 2, 0, none⟩, ⟨some 40, .fieldAddr 41 (.tmp 39) 1, 0, none⟩, ⟨none, .store 22 (.tmp 40) (.tmp 38), 0, none⟩] 5 [[], [0], [1], [], [3], [4], [2, 5, 4], [0, 1, 2, 3, 4, 5, 6], [7, 0, 1, 2, 3, 4, 5, 6], [8, 6, 6, 0, 1, 2, 3, 4, 5, 6]] (Q .normal ds) σ w := mk_eq rfl
@[push_cast] theorem vr15_13 : vc Try.prog (.drawA r15_13 5 [[], [0], [1], [], [3], [4], [2, 5, 4], [0, 1, 2, 3, 4, 5, 6], [7, 0, 1, 2, 3, 4, 5, 6], [8, 6, 6, 0, 1, 2, 3, 4, 5, 6]]) Q ds σ w = drawnA Try.prog [⟨some 47, .fieldAddr 43 (.tmp 7) 2, 0, none⟩, ⟨some 48, .fieldAddr 41 (.tmp 47) 2, 0, none⟩, ⟨some 49, .load 39 (.tmp 48), 39, none⟩, ⟨some 50, .move (.tmp 6), 82, none⟩, ⟨some 51, .call ⟨.value (.func 38), #[(.tmp 50), (.const (.int .i64 (-4611686018427387904))), (.const (.int .i64 4611686018427387904))], #[82, 3, 3]⟩, 3, none⟩, ⟨some 52, .buildSlice 39 1 #[(0, (.tmp 51))], 39, none⟩, ⟨some 53, .call ⟨.builtin .append, #[.tmp 49, .tmp 52], #[39, 39]⟩, 39, none⟩, ⟨some 54, .fieldAddr 43 (.tmp 7) 2, 0, none⟩, ⟨some 55, .fieldAddr 41 (.tmp 54) 2, 0, none⟩, ⟨none, .store 39 (.tmp 55) (.tmp 53), 0, none⟩] 5 [[], [0], [1], [], [3], [4], [2, 5, 4], [0, 1, 2, 3, 4, 5, 6], [7, 0, 1, 2, 3, 4, 5, 6], [8, 6, 6, 0, 1, 2, 3, 4, 5, 6]] (Q .normal ds) σ w := mk_eq rfl
/-! 32 columbary/columbaryref19.Decode (params #[24, 25], results #[(.cell 4 43), (.tmp 5)], 84 slots) -/
@[push_cast] def W32_0 : List Nat := [10, 30, 31, 32, 33, 34, 35, 36, 37, 38, 39, 40, 41, 42, 43, 44, 45]
@[push_cast] def W32_1 : List Nat := [11, 46, 47, 48, 49, 50, 51, 52, 53, 54, 55, 56, 57, 58, 59, 60, 61]
abbrev r32_0 : List VOp :=
  [zBJ 2 24 0 0,
   zC 4 43,
   zF 5 0 29]
abbrev r32_1 : List VOp :=
  [mv 14 1 25,
   zBK 15 105 0 14,
   zBJ 16 105 15 103,
   asg 6 16 103]
abbrev r32_2 : List VOp :=
  [zBL 17,
   zC 7 43,
   zB 43 7 17]
abbrev r32_3 : List VOp :=
  [mv 18 6 103,
   zBS 19 57 18 1 103 3,
   asg 8 19 3]
abbrev r32_4 : List VOp :=
  [mv 20 6 103,
   zBS 21 57 20 1099511627776 103 3,
   asg 9 21 3]
abbrev r32_5 : List VOp :=
  [mv 22 8 3,
   zM 23 3 22 1]
abbrev r32_6 : List VOp :=
  [fad 24 43 7 0,
   zA 24]
abbrev r32_7 : List VOp :=
  [mv 25 9 3,
   fad 26 43 7 1,
   zB 3 26 25]
abbrev r32_8 : List VOp :=
  [mv 27 9 3,
   fad 28 43 7 2,
   fad 29 41 28 0,
   zB 3 29 27]
abbrev r32_9 : List VOp :=
  [zF 10 0 3]
abbrev r32_10 : List VOp :=
  [mv 30 10 3,
   fad 31 24 2 0,
   lda 32 22 31,
   zBO 33 32 22,
   zY 34 30 33 4]
abbrev r32_12 : List VOp :=
  [fad 37 43 7 2,
   fad 38 41 37 1,
   lda 39 22 38,
   mv 40 6 103,
   zBT 41 58 40 24 103 3 9,
   zBM 42 22 41,
   zBN 43 39 42 22 22,
   fad 44 43 7 2,
   fad 45 41 44 1,
   zB 22 45 43]
abbrev r32_11 : List VOp :=
  [mv 35 10 3,
   zK 36 35 1,
   asg 10 36 3]
abbrev r32_13 : List VOp :=
  [zF 11 0 3]
abbrev r32_14 : List VOp :=
  [mv 46 11 3,
   fad 47 24 2 1,
   lda 48 22 47,
   zBO 49 48 22,
   zY 50 46 49 4]
abbrev r32_16 : List VOp :=
  [fad 53 43 7 2,
   fad 54 41 53 2,
   lda 55 39 54,
   mv 56 6 103,
   ⟨some 57, .call ⟨.value (.func 57), #[(.tmp 56), (.const (.int .i64 (-4611686018427387904))), (.const (.int .i64 4611686018427387904))], #[103, 3, 3]⟩, 3, none⟩,
   zBM 58 39 57,
   zBN 59 55 58 39 39,
   fad 60 43 7 2,
   fad 61 41 60 2,
   zB 39 61 59]
abbrev r32_15 : List VOp :=
  [mv 51 11 3,
   zK 52 51 1,
   asg 11 52 3]
abbrev r32_17 : List VOp :=
  [lda 63 24 2,
   lda 64 43 7,
   zBV 65 59 63 64 24 43 45,
   mv 62 65 45,
   ext 66 62 0 25,
   ext 67 62 1 29,
   asg 12 66 25,
   asg 13 67 29]
abbrev r32_18 : List VOp :=
  [mv 68 6 103,
   zBX 69 60 68 103 4,
   zCR 70 69,
   mv 71 70 4,
   zCJ 72 13 29 71,
   zBB 73 72 71,
   zCN 74 71 73,
   mv 75 74 4,
   zCJ 76 12 25 75,
   ⟨some 77, .convert 25 9 (.tmp 76), 9, some (75, false)⟩,
   zCJ 78 1 25 75,
   ⟨some 79, .convert 25 9 (.tmp 78), 9, some (75, false)⟩,
   ⟨some 80, .binOp .neq 9 (.tmp 77) (.tmp 79) 9, 4, some (75, false)⟩,
   zCN 81 75 80]
abbrev r32_19 : List VOp :=
  [zBL 82,
   zB 43 4 82,
   zF 5 191 29]
abbrev r32_20 : List VOp :=
  [lda 83 43 7,
   zB 43 4 83,
   zF 5 0 29]
def B32 : VC :=
  (.seq (.region r32_0) (.seq (.region r32_1) (.seq (.region r32_2) (.seq (.region r32_3) (.seq (.region r32_4) (.seq (.seq (.region r32_5) (.cond (.tmp 23) (.seq (.region r32_6) (.region r32_7)) (.seq (.region r32_8) (.seq (.seq (.region r32_9) (.block 0 (.loop (.seq (.seq (.region r32_10) (.cond (.tmp 34) .skip (.exit 0))) (.seq (.block 1 (.drawA r32_12 5 [[], [0], [1], [], [3], [4], [2, 5, 4], [0, 1, 2, 3, 4, 5, 6], [7, 0, 1, 2, 3, 4, 5, 6], [8, 6, 6, 0, 1, 2, 3, 4, 5, 6]])) (.region r32_11)))))) (.seq (.region r32_13) (.block 2 (.loop (.seq (.seq (.region r32_14) (.cond (.tmp 50) .skip (.exit 2))) (.seq (.block 3 (.drawA r32_16 5 [[], [0], [1], [], [3], [4], [2, 5, 4], [0, 1, 2, 3, 4, 5, 6], [7, 0, 1, 2, 3, 4, 5, 6], [8, 6, 6, 0, 1, 2, 3, 4, 5, 6]])) (.region r32_15)))))))))) (.seq (.region r32_17) (.seq (.seq (.region r32_18) (.cond (.tmp 81) (.seq (.region r32_19) .ret) .skip)) (.seq (.region r32_20) .ret)))))))))
theorem code32 : ∃ c, Try.f32.body = some c ∧ absT Try.f32.ntmps c = B32 := ⟨_, rfl, by kernel_rfl⟩
theorem hb32 : HasBody Try.prog 32 := hasBody_of Try.func32 (by kernel_rfl)
theorem enter32 (x0 x1 : Value) : Ent 32 B32 #[(.cell 4 43), (.tmp 5)] [x0, x1] := ent code32 hb32 Try.func32 rfl rfl
@[push_cast] theorem vr32_12 : vc Try.prog (.drawA r32_12 5 [[], [0], [1], [], [3], [4], [2, 5, 4], [0, 1, 2, 3, 4, 5, 6], [7, 0, 1, 2, 3, 4, 5, 6], [8, 6, 6, 0, 1, 2, 3, 4, 5, 6]]) Q ds σ w = drawnA Try.prog [⟨some 37, .fieldAddr 43 (.tmp 7) 2, 0, none⟩, ⟨some 38, .fieldAddr 41 (.tmp 37) 1, 0, none⟩, ⟨some 39, .load 22 (.tmp 38), 22, none⟩, ⟨some 40, .move (.tmp 6), 103, none⟩, ⟨some 41, .call ⟨.value (.func 58), #[(.tmp 40), (.const (.int .i64 24))], #[103, 3]⟩, 9, none⟩, ⟨some 42, .buildSlice 22 1 #[(0, (.tmp 41))], 22, none⟩, ⟨some 43, .call ⟨.builtin .append, #[.tmp 39, .tmp 42], #[22, 22]⟩, 22, none⟩, ⟨some 44, .fieldAddr 43 (.tmp 7) 2, 0, none⟩, ⟨some 45, .fieldAddr 41 (.tmp 44) 1, 0, none⟩, ⟨none, .store 22 (.tmp 45) (.tmp 43), 0, none⟩] 5 [[], [0], [1], [], [3], [4], [2, 5, 4], [0, 1, 2, 3, 4, 5, 6], [7, 0, 1, 2, 3, 4, 5, 6], [8, 6, 6, 0, 1, 2, 3, 4, 5, 6]] (Q .normal ds) σ w := mk_eq rfl
@[push_cast] theorem vr32_16 : vc Try.prog (.drawA r32_16 5 [[], [0], [1], [], [3], [4], [2, 5, 4], [0, 1, 2, 3, 4, 5, 6], [7, 0, 1, 2, 3, 4, 5, 6], [8, 6, 6, 0, 1, 2, 3, 4, 5, 6]]) Q ds σ w = drawnA Try.prog [⟨some 53, .fieldAddr 43 (.tmp 7) 2, 0, none⟩, ⟨some 54, .fieldAddr 41 (.tmp 53) 2, 0, none⟩, ⟨some 55, .load 39 (.tmp 54), 39, none⟩, ⟨some 56, .move (.tmp 6), 103, none⟩, ⟨some 57, .call ⟨.value (.func 57), #[(.tmp 56), (.const (.int .i64 (-4611686018427387904))), (.const (.int .i64 4611686018427387904))], #[103, 3, 3]⟩, 3, none⟩, ⟨some 58, .buildSlice 39 1 #[(0, (.tmp 57))], 39, none⟩, ⟨some 59, .call ⟨.builtin .append, #[.tmp 55, .tmp 58], #[39, 39]⟩, 39, none⟩, ⟨some 60, .fieldAddr 43 (.tmp 7) 2, 0, none⟩, ⟨some 61, .fieldAddr 41 (.tmp 60) 2, 0, none⟩, ⟨none, .store 39 (.tmp 61) (.tmp 59), 0, none⟩] 5 [[], [0], [1], [], [3], [4], [2, 5, 4], [0, 1, 2, 3, 4, 5, 6], [7, 0, 1, 2, 3, 4, 5, 6], [8, 6, 6, 0, 1, 2, 3, 4, 5, 6]] (Q .normal ds) σ w := mk_eq rfl
@[push_cast] theorem bsl22_1_CodesT {K : Value → World → Prop} {w : World} (x0 : ByteArray) : vBuildSlice Try.prog 22 1 #[(0, (.string x0))] K w = K (.slice (some ⟨w.heap.size, 0, none⟩) 1 1) (w.alloc (.cells #[(.string x0)] 9)) :=
  vBuildSlice_ok Try.underlying22 ti9 (by kernel_rfl) (by decide)
@[push_cast] theorem bsl39_1_CodesT {K : Value → World → Prop} {w : World} (x0 : Int) : vBuildSlice Try.prog 39 1 #[(0, (.int .i64 x0))] K w = K (.slice (some ⟨w.heap.size, 0, none⟩) 1 1) (w.alloc (.cells #[(.int .i64 x0)] 3)) :=
  vBuildSlice_ok Try.underlying39 ti3 (by kernel_rfl) (by decide)
@[push_cast] theorem bld43__CodesT {K : Value → World → Prop} {w : World}  : vBuild Try.prog 43 #[] K w = K (.agg #[(.bool false), (.int .i64 0), (.int .i64 0), (.slice none 0 0), (.slice none 0 0)]) w :=
  vBuild_ok (by kernel_rfl)
@[push_cast] theorem bld86_0_1_CodesT {K : Value → World → Prop} {w : World} (x0 : Option Addr) (x1 : Bool) : vBuild Try.prog 86 #[(0, (.pointer x0)), (1, (.bool x1))] K w = K (.agg #[(.pointer x0), (.bool x1)]) w :=
  vBuild_ok (by kernel_rfl)
@[push_cast] theorem bld105_0_CodesT {K : Value → World → Prop} {w : World} (x0o : Option Addr) (x0n x0c : Nat) : vBuild Try.prog 105 #[(0, (.slice x0o x0n x0c))] K w = K (.agg #[(.slice x0o x0n x0c), (.int .i64 0), (.bool false)]) w :=
  vBuild_ok (by kernel_rfl)
end Go.Proofs.Ytcajkjbempagaaa
end
section
set_option linter.unusedSimpArgs false
namespace Go.Proofs.Ytcajkjbempagaaa
open Go.Vc Go.Zig Go.Key
set_option maxRecDepth 100000
theorem own_ge {w : World} {B s n : Nat} {e : TypeId} {v : Value} {xs : List Value} (h : w.ownsRow B e s v n xs) : ∀ k ∈ v.ownBlock.toList, B ≤ k := by
  obtain ⟨_, h⟩ := h
  rcases h with ⟨rfl, _⟩ | ⟨g, cap, cur, rfl, hg, _⟩
  · simp [Value.ownBlock]
  · simpa [Value.ownBlock] using hg
theorem lit_sl {w : World} {b : Nat} {x : Value} {e : TypeId} (h : Blk w b #[x] e) : Sl w (.slice (some ⟨b, 0, none⟩) 1 1) [x] := by
  refine SlN.mk (by simp) (Nat.le_refl _) (by unfold maxLen; omega) (fun h => by cases h) ?_
  intro a ha i y hy
  cases ha
  have hi := (List.getElem?_eq_some_iff.1 hy).1
  have hi : i = 0 := by simpa using hi
  subst hi
  rw [addr_add_eq, Nat.zero_add, h.cell]
  exact hy
theorem waits_at' {dps : List (List Nat)} {D : Nat → Bool} {j : Nat} (h : waitsOk dps D j) {ds : List Nat} (hd : dps[j]? = some ds) {i : Nat} (hi : i ∈ ds) : D i = true := h ds hd i hi
def JI (T0 T1 O0 : World → Prop) (O1 E : World → Value → Prop) (R : World → Prop) (B : Nat) (et : TypeId) (p6 p7 vi p0 p1 v vl : Value) (d0 d1 d2 d3 d4 d5 d6 d7 d8 d9 : Bool) (s6 s7 si a0 a1 a2 a3 a4 a5 a6 a7 a8 : Value) (w : World) : Prop :=
  (s6 = p6 ∧ s7 = p7 ∧ si = vi ∧ R w ∧ B ≤ w.heap.size) ∧
  ((d6 = false ∧ d7 = false ∧ d8 = false ∧ d9 = false ∧ E w v ∧ O0 w ∧ (if d4 = true then T1 w else T0 w) ∧ (d0 = true → a0 = p0) ∧ (d1 = true → a1 = p1) ∧ (d2 = true → a2 = v) ∧ (d3 = true → a3 = p6) ∧ (d4 = true → a4 = vl) ∧ (d5 = true → ∃ b, a5 = .slice (some ⟨b, 0, none⟩) 1 1 ∧ Blk w b #[vl] et ∧ B ≤ b)) ∨
   (d0 = true ∧ d1 = true ∧ d2 = true ∧ d3 = true ∧ d4 = true ∧ d5 = true ∧ d6 = true ∧ T1 w ∧ (∃ v', a6 = v' ∧ O1 w v' ∧ E w (if d9 = true then v' else v)) ∧ (d7 = true → a7 = p0) ∧ (d8 = true → a8 = p1)))
theorem own_form {w : World} {B s n : Nat} {e : TypeId} {v : Value} {xs : List Value} (h : w.ownsRow B e s v n xs) : ∃ o c, v = .slice o n c := by
  obtain ⟨_, h⟩ := h
  rcases h with ⟨rfl, h⟩ | ⟨g, cap, cur, rfl, _⟩
  · exact ⟨none, 0, by rw [show n = 0 from by first | exact h | exact h.1]⟩
  · exact ⟨_, _, rfl⟩
set_option maxHeartbeats 2000000 in
theorem jreg1_c {R : World → Prop} {kt kr d ke B : Nat} {s : St} {ds : List ByteArray} {v vi c0 c1 c2 c4 : Value} {K : Env → World → Prop} {σ : Env} {w : World} (e6 : σ 6 = pt kt) (e7 : σ 7 = pt ke) (ei : σ 30 = vi) (hW : R w) (hT : Tk w kt kr d s) (hE : Blk w ke #[c0, c1, c2, v, c4] 43) (hO : OwnS w B v ds)
    (kb : kt < B ∧ kr < B ∧ d < B ∧ ke < B) (hRc : ∀ (w1 w2 : World) (ks : List Nat), R w1 → Chg w1 w2 ks → (∀ k ∈ ks, k = kt ∨ k = kr ∨ k = ke ∨ B ≤ k) → R w2) (kn : ke ≠ kt ∧ ke ≠ kr ∧ ke ≠ d) (hBw : B ≤ w.heap.size) (hcn : ds.length ≤ 100000)
    (hK : ∀ (σ1 : Env) (w2 : World) (v' : Value), σ1 6 = pt kt → σ1 7 = pt ke → σ1 30 = vi → R w2 → Tk w2 kt kr d (pT s).2 → Blk w2 ke #[c0, c1, c2, v', c4] 43 → OwnS w2 B v' (ds ++ [(pT s).1]) → B ≤ w2.heap.size → K σ1 w2) :
    anyA Try.prog r15_9 [[], [0], [1], [], [3], [4], [2, 5, 4], [0, 1, 2, 3, 4, 5, 6], [7, 0, 1, 2, 3, 4, 5, 6], [8, 6, 6, 0, 1, 2, 3, 4, 5, 6]] K σ w := by
  refine ⟨fun D σ w => JI (fun w => Tk w kt kr d s) (fun w => Tk w kt kr d (pT s).2) (fun w => OwnS w B v ds) (fun w v' => OwnS w B v' (ds ++ [(pT s).1])) (fun w v' => Blk w ke #[c0, c1, c2, v', c4] 43) R B 9 (pt kt) (pt ke) vi (.pointer (some ⟨ke, 2, none⟩)) (.pointer (some ⟨ke, 3, none⟩)) v (.string (pT s).1) (D 0) (D 1) (D 2) (D 3) (D 4) (D 5) (D 6) (D 7) (D 8) (D 9) (σ 6) (σ 7) (σ 30) (σ 32) (σ 33) (σ 34) (σ 35) (σ 36) (σ 37) (σ 38) (σ 39) (σ 40) w, ?_, ?_, ?_⟩
  · intro w' hl
    exact ⟨⟨e6, e7, ei, hRc _ _ [] hW (Chg.of_later hl) (by simp), Nat.le_trans hBw hl.size⟩, .inl ⟨rfl, rfl, rfl, rfl, hE.chg (Chg.of_later (ks := []) hl) (by simp), own_later hO hl, hT.chg (Chg.of_later (ks := []) hl) (by simp) (by simp) (by simp), (fun h => by cases h), (fun h => by cases h), (fun h => by cases h), (fun h => by cases h), (fun h => by cases h), (fun h => by cases h)⟩⟩
  · intro D σ1 w2 j o hcl hI hoj hDj hwt
    obtain ⟨⟨g6, g7, gi, lW, hB2⟩, hI⟩ := hI
    match j, hoj with
    | 0, hoj =>
      obtain rfl := Option.some.inj hoj
      rcases hI with ⟨d6, d7, d8, d9, hE2, hO2, hT2, k0, k1, k2, k3, k4, k5⟩ | ⟨q0, _⟩
      · have g7' : σ1 7 = .pointer (some ⟨ke, 0, none⟩) := g7
        repeat' (first | (simp (disch := omega) only [push_cast, seval, g7', addr_add_eq, Nat.zero_add]) | refine iX ?_ ?_ <;> intros | refine aI (by omega) ?_ | refine dq ?_)
        exact ⟨⟨g6, rfl, gi, lW, hB2⟩, .inl ⟨d6, d7, d8, d9, hE2, hO2, hT2, fun _ => rfl, k1, k2, k3, k4, k5⟩⟩
      · rw [q0] at hDj; cases hDj
    | 1, hoj =>
      obtain rfl := Option.some.inj hoj
      rcases hI with ⟨d6, d7, d8, d9, hE2, hO2, hT2, k0, k1, k2, k3, k4, k5⟩ | ⟨_, q0, _⟩
      · have h0 := k0 (waits_at' hwt rfl (by simp))
        repeat' (first | (simp (disch := omega) only [push_cast, seval, h0, addr_add_eq, Nat.zero_add]) | refine iX ?_ ?_ <;> intros | refine aI (by omega) ?_ | refine dq ?_)
        exact ⟨⟨g6, g7, gi, lW, hB2⟩, .inl ⟨d6, d7, d8, d9, hE2, hO2, hT2, fun _ => rfl, fun _ => rfl, k2, k3, k4, k5⟩⟩
      · rw [q0] at hDj; cases hDj
    | 2, hoj =>
      obtain rfl := Option.some.inj hoj
      rcases hI with ⟨d6, d7, d8, d9, hE2, hO2, hT2, k0, k1, k2, k3, k4, k5⟩ | ⟨_, _, q0, _⟩
      · have h1 := k1 (waits_at' hwt rfl (by simp))
        have hc : w2.cell? ⟨ke, 3, none⟩ = some v := hE2.cell 3
        repeat' (first | (simp (disch := omega) only [push_cast, seval, h1, hc, addr_add_eq, Nat.zero_add]) | refine iX ?_ ?_ <;> intros | refine aI (by omega) ?_ | refine dq ?_)
        exact ⟨⟨g6, g7, gi, lW, hB2⟩, .inl ⟨d6, d7, d8, d9, hE2, hO2, hT2, k0, fun _ => rfl, fun _ => rfl, k3, k4, k5⟩⟩
      · rw [q0] at hDj; cases hDj
    | 3, hoj =>
      obtain rfl := Option.some.inj hoj
      rcases hI with ⟨d6, d7, d8, d9, hE2, hO2, hT2, k0, k1, k2, k3, k4, k5⟩ | ⟨_, _, _, q0, _⟩
      · repeat' (first | (simp (disch := omega) only [push_cast, seval, g6]) | refine iX ?_ ?_ <;> intros | refine aI (by omega) ?_ | refine dq ?_)
        exact ⟨⟨rfl, g7, gi, lW, hB2⟩, .inl ⟨d6, d7, d8, d9, hE2, hO2, hT2, k0, k1, k2, fun _ => rfl, k4, k5⟩⟩
      · rw [q0] at hDj; cases hDj
    | 4, hoj =>
      obtain rfl := Option.some.inj hoj
      rcases hI with ⟨d6, d7, d8, d9, hE2, hO2, hT2, k0, k1, k2, k3, k4, k5⟩ | ⟨_, _, _, _, q0, _⟩
      · have h3 := k3 (waits_at' hwt rfl (by simp))
        have d5 : D 5 = false := by
          cases h : D 5 with
          | false => rfl
          | true => have := waits_at' (hcl 5 h) rfl (i := 4) (by simp); rw [hDj] at this; cases this
        rw [hDj, if_neg (by simp)] at hT2
        repeat' (first | (simp (disch := omega) only [push_cast, seval, h3]) | refine iX ?_ ?_ <;> intros | refine aI (by omega) ?_ | refine dq ?_)
        refine (ttext_c kt kr d s w2 hT2).mono ?_
        rintro _ w3 ⟨rfl, hT3, g⟩
        have hE3 := hE2.chg g (by simp; omega)
        have hO3 := own_chg hO2 g (by intro k hk; simp at hk; omega)
        have lW3 : R w3 := hRc _ _ _ lW g (by intro k hk; simp at hk; omega)
        have hB3 := Nat.le_trans hB2 g.size
        repeat' (first | (simp (disch := omega) only [push_cast, seval]) | refine iX ?_ ?_ <;> intros | refine aI (by omega) ?_ | refine dq ?_)
        exact ⟨⟨g6, g7, gi, lW3, hB3⟩, .inl ⟨d6, d7, d8, d9, hE3, hO3, hT3, k0, k1, k2, by first | exact k3 | exact fun _ => rfl, fun _ => rfl, fun h => by simp [d5] at h⟩⟩
      · rw [q0] at hDj; cases hDj
    | 5, hoj =>
      obtain rfl := Option.some.inj hoj
      rcases hI with ⟨d6, d7, d8, d9, hE2, hO2, hT2, k0, k1, k2, k3, k4, k5⟩ | ⟨_, _, _, _, _, q0, _⟩
      · have h4 := k4 (waits_at' hwt rfl (by simp))
        repeat' (first | (simp (disch := omega) only [push_cast, seval, h4]) | refine iX ?_ ?_ <;> intros | refine aI (by omega) ?_ | refine dq ?_)
        have l3 := later_alloc w2 (.cells #[.string (pT s).1] 9)
        have D4 : D 4 = true := waits_at' hwt rfl (by simp)
        rw [D4, if_pos rfl] at hT2
        have hT3 := hT2.chg (Chg.of_later (ks := []) l3) (by simp) (by simp) (by simp)
        exact ⟨⟨g6, g7, gi, hRc _ _ [] lW (Chg.of_later l3) (by simp), Nat.le_trans hB2 l3.size⟩, .inl ⟨d6, d7, d8, d9, hE2.chg (Chg.of_later (ks := []) l3) (by simp), own_later hO2 l3, by show (if D 4 = true then _ else _); rw [D4, if_pos rfl]; exact hT3, k0, k1, k2, k3, fun _ => rfl, fun _ => ⟨_, rfl, Blk.new _ _ _, hB2⟩⟩⟩
      · rw [q0] at hDj; cases hDj
    | 6, hoj =>
      obtain rfl := Option.some.inj hoj
      have D2 := waits_at' hwt rfl (i := 2) (by simp)
      have D5 := waits_at' hwt rfl (i := 5) (by simp)
      have D4 := waits_at' hwt rfl (i := 4) (by simp)
      have D1 := waits_at' (hcl 2 D2) rfl (i := 1) (by simp)
      have D0 := waits_at' (hcl 1 D1) rfl (i := 0) (by simp)
      have D3 := waits_at' (hcl 4 D4) rfl (i := 3) (by simp)
      rcases hI with ⟨d6, d7, d8, d9, hE2, hO2, hT2, k0, k1, k2, k3, k4, k5⟩ | ⟨_, _, _, _, _, _, q0, _⟩
      · have h2 := k2 D2
        obtain ⟨b, h5, hb, hbB⟩ := k5 D5
        rw [D4, if_pos rfl] at hT2
        obtain ⟨oo, oc, hv⟩ := own_form hO2
        have hx := lit_sl hb
        repeat' (first | (simp (disch := omega) only [push_cast, seval, h2, h5]) | refine iX ?_ ?_ <;> intros | refine aI (by omega) ?_ | refine dq ?_)
        refine vAppend_ss (r := [(pT s).1]) hO2 hx (by simp; omega) hB2 ?_
        intro v' w3 ho3 hg _
        have hge := own_ge hO2
        have lW3 : R w3 := hRc _ _ _ lW (Chg.of_grown hg) (fun k hk => by have := hge k hk; omega)
        have hE3 := grown_blk hO2 hg hE2 kb.2.2.2
        have hT3 := hT2.chg (Chg.of_grown hg) (fun h => by have := hge _ h; omega) (fun h => by have := hge _ h; omega) (fun h => by have := hge _ h; omega)
        have hB3 := Nat.le_trans hB2 hg.size
        repeat' (first | (simp (disch := omega) only [push_cast, seval]) | refine iX ?_ ?_ <;> intros | refine aI (by omega) ?_ | refine dq ?_)
        exact ⟨⟨g6, g7, gi, lW3, hB3⟩, .inr ⟨D0, D1, D2, D3, D4, D5, rfl, hT3, ⟨v', rfl, ho3, by show Blk w3 ke _ _; first | (rw [show ((9 == 6) || D 9) = false from d9, if_neg (by simp)]; exact hE3) | (rw [d9, if_neg (by simp)]; exact hE3) | (simp only [d9]; simpa using hE3)⟩, (fun h => by have h : D 7 = true := h; rw [d7] at h; cases h), (fun h => by have h : D 8 = true := h; rw [d8] at h; cases h)⟩⟩
      · rw [q0] at hDj; cases hDj
    | 7, hoj =>
      obtain rfl := Option.some.inj hoj
      have D6 := waits_at' hwt rfl (i := 6) (by simp)
      rcases hI with ⟨d6, _⟩ | ⟨q0, q1, q2, q3, q4, q5, q6, hT2, ⟨v', h6, ho2, hE2⟩, k7, k8⟩
      · rw [d6] at D6; cases D6
      · have g7' : σ1 7 = .pointer (some ⟨ke, 0, none⟩) := g7
        repeat' (first | (simp (disch := omega) only [push_cast, seval, g7', addr_add_eq, Nat.zero_add]) | refine iX ?_ ?_ <;> intros | refine aI (by omega) ?_ | refine dq ?_)
        exact ⟨⟨g6, rfl, gi, lW, hB2⟩, .inr ⟨q0, q1, q2, q3, q4, q5, q6, hT2, ⟨v', h6, ho2, hE2⟩, fun _ => rfl, k8⟩⟩
    | 8, hoj =>
      obtain rfl := Option.some.inj hoj
      have D6 := waits_at' hwt rfl (i := 6) (by simp)
      have D7 := waits_at' hwt rfl (i := 7) (by simp)
      rcases hI with ⟨d6, _⟩ | ⟨q0, q1, q2, q3, q4, q5, q6, hT2, ⟨v', h6, ho2, hE2⟩, k7, k8⟩
      · rw [d6] at D6; cases D6
      · have h7 := k7 D7
        repeat' (first | (simp (disch := omega) only [push_cast, seval, h7, addr_add_eq, Nat.zero_add]) | refine iX ?_ ?_ <;> intros | refine aI (by omega) ?_ | refine dq ?_)
        exact ⟨⟨g6, g7, gi, lW, hB2⟩, .inr ⟨q0, q1, q2, q3, q4, q5, q6, hT2, ⟨v', h6, ho2, hE2⟩, by first | exact k7 | exact fun _ => rfl, fun _ => rfl⟩⟩
    | 9, hoj =>
      obtain rfl := Option.some.inj hoj
      have D6 := waits_at' hwt rfl (i := 6) (by simp)
      have D8 := waits_at' hwt rfl (i := 8) (by simp)
      rcases hI with ⟨d6, _⟩ | ⟨q0, q1, q2, q3, q4, q5, q6, hT2, ⟨v', h6, ho2, hE2⟩, k7, k8⟩
      · rw [d6] at D6; cases D6
      · have h8 := k8 D8
        rw [hDj, if_neg (by simp)] at hE2
        have hc : w2.cell? ⟨ke, 3, none⟩ = some v := hE2.cell 3
        have hf := hE2.frozen 3
        obtain ⟨oo, oc, rfl⟩ := own_form ho2
        have hc8 : Chg w2 (w2.setCell ⟨ke, 3, none⟩ (.slice oo (ds ++ [(pT s).1]).length oc)) [ke] := chg_setCell w2 (by simp) _
        have hE8 : Blk (w2.setCell ⟨ke, 3, none⟩ (.slice oo (ds ++ [(pT s).1]).length oc)) ke #[c0, c1, c2, .slice oo (ds ++ [(pT s).1]).length oc, c4] 43 := hE2.set 3 _
        have hO8 := own_chg ho2 hc8 (by intro k hk; simp at hk; omega)
        have hT8 := hT2.chg hc8 (by simp; omega) (by simp; omega) (by simp; omega)
        have lW8 : R (w2.setCell ⟨ke, 3, none⟩ (.slice oo (ds ++ [(pT s).1]).length oc)) := hRc _ _ _ lW hc8 (by intro k hk; simp at hk; omega)
        have hB8 := Nat.le_trans hB2 hc8.size
        repeat' (first | (simp (disch := omega) only [push_cast, seval, h8, h6, hc, hf]) | refine iX ?_ ?_ <;> intros | refine aI (by omega) ?_ | refine dq ?_)
        exact ⟨⟨g6, g7, gi, lW8, hB8⟩, .inr ⟨q0, q1, q2, q3, q4, q5, q6, hT8, ⟨_, by first | exact h6 | rfl, hO8, by simpa using hE8⟩, k7, by first | exact k8 | exact fun _ => rfl⟩⟩
    | n + 10, hoj => exact absurd hoj (by simp [r15_9])
  · intro D σ1 w2 hI hall
    obtain ⟨⟨g6, g7, gi, lW, hB2⟩, hI⟩ := hI
    have hall : ∀ j, j < 10 → D j = true := hall
    rcases hI with ⟨d6, _⟩ | ⟨q0, q1, q2, q3, q4, q5, q6, hT2, ⟨v', h6, ho2, hE2⟩, k7, k8⟩
    · rw [hall 6 (by decide)] at d6; cases d6
    · rw [hall 9 (by decide), if_pos rfl] at hE2
      exact hK σ1 w2 v' g6 g7 gi lW hT2 hE2 ho2 hB2
set_option maxHeartbeats 2000000 in
theorem jreg2_c {R : World → Prop} {kt kr d ke B : Nat} {s : St} {ds : List Int} {v vi c0 c1 c2 c3 : Value} {K : Env → World → Prop} {σ : Env} {w : World} (e6 : σ 6 = pt kt) (e7 : σ 7 = pt ke) (ei : σ 45 = vi) (hW : R w) (hT : Tk w kt kr d s) (hE : Blk w ke #[c0, c1, c2, c3, v] 43) (hO : OwnI w B 3 v ds)
    (kb : kt < B ∧ kr < B ∧ d < B ∧ ke < B) (hRc : ∀ (w1 w2 : World) (ks : List Nat), R w1 → Chg w1 w2 ks → (∀ k ∈ ks, k = kt ∨ k = kr ∨ k = ke ∨ B ≤ k) → R w2) (kn : ke ≠ kt ∧ ke ≠ kr ∧ ke ≠ d) (hBw : B ≤ w.heap.size) (hcn : ds.length ≤ 100000)
    (hK : ∀ (σ1 : Env) (w2 : World) (v' : Value), σ1 6 = pt kt → σ1 7 = pt ke → σ1 45 = vi → R w2 → Tk w2 kt kr d (pI s (-4611686018427387904) 4611686018427387904).2 → Blk w2 ke #[c0, c1, c2, c3, v'] 43 → OwnI w2 B 3 v' (ds ++ [(pI s (-4611686018427387904) 4611686018427387904).1]) → B ≤ w2.heap.size → K σ1 w2) :
    anyA Try.prog r15_13 [[], [0], [1], [], [3], [4], [2, 5, 4], [0, 1, 2, 3, 4, 5, 6], [7, 0, 1, 2, 3, 4, 5, 6], [8, 6, 6, 0, 1, 2, 3, 4, 5, 6]] K σ w := by
  refine ⟨fun D σ w => JI (fun w => Tk w kt kr d s) (fun w => Tk w kt kr d (pI s (-4611686018427387904) 4611686018427387904).2) (fun w => OwnI w B 3 v ds) (fun w v' => OwnI w B 3 v' (ds ++ [(pI s (-4611686018427387904) 4611686018427387904).1])) (fun w v' => Blk w ke #[c0, c1, c2, c3, v'] 43) R B 3 (pt kt) (pt ke) vi (.pointer (some ⟨ke, 2, none⟩)) (.pointer (some ⟨ke, 4, none⟩)) v (.int .i64 (pI s (-4611686018427387904) 4611686018427387904).1) (D 0) (D 1) (D 2) (D 3) (D 4) (D 5) (D 6) (D 7) (D 8) (D 9) (σ 6) (σ 7) (σ 45) (σ 47) (σ 48) (σ 49) (σ 50) (σ 51) (σ 52) (σ 53) (σ 54) (σ 55) w, ?_, ?_, ?_⟩
  · intro w' hl
    exact ⟨⟨e6, e7, ei, hRc _ _ [] hW (Chg.of_later hl) (by simp), Nat.le_trans hBw hl.size⟩, .inl ⟨rfl, rfl, rfl, rfl, hE.chg (Chg.of_later (ks := []) hl) (by simp), own_later hO hl, hT.chg (Chg.of_later (ks := []) hl) (by simp) (by simp) (by simp), (fun h => by cases h), (fun h => by cases h), (fun h => by cases h), (fun h => by cases h), (fun h => by cases h), (fun h => by cases h)⟩⟩
  · intro D σ1 w2 j o hcl hI hoj hDj hwt
    obtain ⟨⟨g6, g7, gi, lW, hB2⟩, hI⟩ := hI
    match j, hoj with
    | 0, hoj =>
      obtain rfl := Option.some.inj hoj
      rcases hI with ⟨d6, d7, d8, d9, hE2, hO2, hT2, k0, k1, k2, k3, k4, k5⟩ | ⟨q0, _⟩
      · have g7' : σ1 7 = .pointer (some ⟨ke, 0, none⟩) := g7
        repeat' (first | (simp (disch := omega) only [push_cast, seval, g7', addr_add_eq, Nat.zero_add]) | refine iX ?_ ?_ <;> intros | refine aI (by omega) ?_ | refine dq ?_)
        exact ⟨⟨g6, rfl, gi, lW, hB2⟩, .inl ⟨d6, d7, d8, d9, hE2, hO2, hT2, fun _ => rfl, k1, k2, k3, k4, k5⟩⟩
      · rw [q0] at hDj; cases hDj
    | 1, hoj =>
      obtain rfl := Option.some.inj hoj
      rcases hI with ⟨d6, d7, d8, d9, hE2, hO2, hT2, k0, k1, k2, k3, k4, k5⟩ | ⟨_, q0, _⟩
      · have h0 := k0 (waits_at' hwt rfl (by simp))
        repeat' (first | (simp (disch := omega) only [push_cast, seval, h0, addr_add_eq, Nat.zero_add]) | refine iX ?_ ?_ <;> intros | refine aI (by omega) ?_ | refine dq ?_)
        exact ⟨⟨g6, g7, gi, lW, hB2⟩, .inl ⟨d6, d7, d8, d9, hE2, hO2, hT2, fun _ => rfl, fun _ => rfl, k2, k3, k4, k5⟩⟩
      · rw [q0] at hDj; cases hDj
    | 2, hoj =>
      obtain rfl := Option.some.inj hoj
      rcases hI with ⟨d6, d7, d8, d9, hE2, hO2, hT2, k0, k1, k2, k3, k4, k5⟩ | ⟨_, _, q0, _⟩
      · have h1 := k1 (waits_at' hwt rfl (by simp))
        have hc : w2.cell? ⟨ke, 4, none⟩ = some v := hE2.cell 4
        repeat' (first | (simp (disch := omega) only [push_cast, seval, h1, hc, addr_add_eq, Nat.zero_add]) | refine iX ?_ ?_ <;> intros | refine aI (by omega) ?_ | refine dq ?_)
        exact ⟨⟨g6, g7, gi, lW, hB2⟩, .inl ⟨d6, d7, d8, d9, hE2, hO2, hT2, k0, fun _ => rfl, fun _ => rfl, k3, k4, k5⟩⟩
      · rw [q0] at hDj; cases hDj
    | 3, hoj =>
      obtain rfl := Option.some.inj hoj
      rcases hI with ⟨d6, d7, d8, d9, hE2, hO2, hT2, k0, k1, k2, k3, k4, k5⟩ | ⟨_, _, _, q0, _⟩
      · repeat' (first | (simp (disch := omega) only [push_cast, seval, g6]) | refine iX ?_ ?_ <;> intros | refine aI (by omega) ?_ | refine dq ?_)
        exact ⟨⟨rfl, g7, gi, lW, hB2⟩, .inl ⟨d6, d7, d8, d9, hE2, hO2, hT2, k0, k1, k2, fun _ => rfl, k4, k5⟩⟩
      · rw [q0] at hDj; cases hDj
    | 4, hoj =>
      obtain rfl := Option.some.inj hoj
      rcases hI with ⟨d6, d7, d8, d9, hE2, hO2, hT2, k0, k1, k2, k3, k4, k5⟩ | ⟨_, _, _, _, q0, _⟩
      · have h3 := k3 (waits_at' hwt rfl (by simp))
        have d5 : D 5 = false := by
          cases h : D 5 with
          | false => rfl
          | true => have := waits_at' (hcl 5 h) rfl (i := 4) (by simp); rw [hDj] at this; cases this
        rw [hDj, if_neg (by simp)] at hT2
        repeat' (first | (simp (disch := omega) only [push_cast, seval, h3]) | refine iX ?_ ?_ <;> intros | refine aI (by omega) ?_ | refine dq ?_)
        refine (tint_c kt kr d s (-4611686018427387904) 4611686018427387904 w2 hT2).mono ?_
        rintro _ w3 ⟨rfl, hT3, g⟩
        have hE3 := hE2.chg g (by simp; omega)
        have hO3 := own_chg hO2 g (by intro k hk; simp at hk; omega)
        have lW3 : R w3 := hRc _ _ _ lW g (by intro k hk; simp at hk; omega)
        have hB3 := Nat.le_trans hB2 g.size
        repeat' (first | (simp (disch := omega) only [push_cast, seval]) | refine iX ?_ ?_ <;> intros | refine aI (by omega) ?_ | refine dq ?_)
        exact ⟨⟨g6, g7, gi, lW3, hB3⟩, .inl ⟨d6, d7, d8, d9, hE3, hO3, hT3, k0, k1, k2, by first | exact k3 | exact fun _ => rfl, fun _ => rfl, fun h => by simp [d5] at h⟩⟩
      · rw [q0] at hDj; cases hDj
    | 5, hoj =>
      obtain rfl := Option.some.inj hoj
      rcases hI with ⟨d6, d7, d8, d9, hE2, hO2, hT2, k0, k1, k2, k3, k4, k5⟩ | ⟨_, _, _, _, _, q0, _⟩
      · have h4 := k4 (waits_at' hwt rfl (by simp))
        repeat' (first | (simp (disch := omega) only [push_cast, seval, h4]) | refine iX ?_ ?_ <;> intros | refine aI (by omega) ?_ | refine dq ?_)
        have l3 := later_alloc w2 (.cells #[.int .i64 (pI s (-4611686018427387904) 4611686018427387904).1] 3)
        have D4 : D 4 = true := waits_at' hwt rfl (by simp)
        rw [D4, if_pos rfl] at hT2
        have hT3 := hT2.chg (Chg.of_later (ks := []) l3) (by simp) (by simp) (by simp)
        exact ⟨⟨g6, g7, gi, hRc _ _ [] lW (Chg.of_later l3) (by simp), Nat.le_trans hB2 l3.size⟩, .inl ⟨d6, d7, d8, d9, hE2.chg (Chg.of_later (ks := []) l3) (by simp), own_later hO2 l3, by show (if D 4 = true then _ else _); rw [D4, if_pos rfl]; exact hT3, k0, k1, k2, k3, fun _ => rfl, fun _ => ⟨_, rfl, Blk.new _ _ _, hB2⟩⟩⟩
      · rw [q0] at hDj; cases hDj
    | 6, hoj =>
      obtain rfl := Option.some.inj hoj
      have D2 := waits_at' hwt rfl (i := 2) (by simp)
      have D5 := waits_at' hwt rfl (i := 5) (by simp)
      have D4 := waits_at' hwt rfl (i := 4) (by simp)
      have D1 := waits_at' (hcl 2 D2) rfl (i := 1) (by simp)
      have D0 := waits_at' (hcl 1 D1) rfl (i := 0) (by simp)
      have D3 := waits_at' (hcl 4 D4) rfl (i := 3) (by simp)
      rcases hI with ⟨d6, d7, d8, d9, hE2, hO2, hT2, k0, k1, k2, k3, k4, k5⟩ | ⟨_, _, _, _, _, _, q0, _⟩
      · have h2 := k2 D2
        obtain ⟨b, h5, hb, hbB⟩ := k5 D5
        rw [D4, if_pos rfl] at hT2
        obtain ⟨oo, oc, hv⟩ := own_form hO2
        have hx := lit_sl hb
        repeat' (first | (simp (disch := omega) only [push_cast, seval, h2, h5]) | refine iX ?_ ?_ <;> intros | refine aI (by omega) ?_ | refine dq ?_)
        refine vAppend_is (r := [(pI s (-4611686018427387904) 4611686018427387904).1]) Try.underlying39 ti3 rfl hO2 hx (by simp; omega) (by decide) hB2 ?_
        intro v' w3 ho3 hg _ _
        have hge := own_ge hO2
        have lW3 : R w3 := hRc _ _ _ lW (Chg.of_grown hg) (fun k hk => by have := hge k hk; omega)
        have hE3 := grown_blk hO2 hg hE2 kb.2.2.2
        have hT3 := hT2.chg (Chg.of_grown hg) (fun h => by have := hge _ h; omega) (fun h => by have := hge _ h; omega) (fun h => by have := hge _ h; omega)
        have hB3 := Nat.le_trans hB2 hg.size
        repeat' (first | (simp (disch := omega) only [push_cast, seval]) | refine iX ?_ ?_ <;> intros | refine aI (by omega) ?_ | refine dq ?_)
        exact ⟨⟨g6, g7, gi, lW3, hB3⟩, .inr ⟨D0, D1, D2, D3, D4, D5, rfl, hT3, ⟨v', rfl, ho3, by show Blk w3 ke _ _; first | (rw [show ((9 == 6) || D 9) = false from d9, if_neg (by simp)]; exact hE3) | (rw [d9, if_neg (by simp)]; exact hE3) | (simp only [d9]; simpa using hE3)⟩, (fun h => by have h : D 7 = true := h; rw [d7] at h; cases h), (fun h => by have h : D 8 = true := h; rw [d8] at h; cases h)⟩⟩
      · rw [q0] at hDj; cases hDj
    | 7, hoj =>
      obtain rfl := Option.some.inj hoj
      have D6 := waits_at' hwt rfl (i := 6) (by simp)
      rcases hI with ⟨d6, _⟩ | ⟨q0, q1, q2, q3, q4, q5, q6, hT2, ⟨v', h6, ho2, hE2⟩, k7, k8⟩
      · rw [d6] at D6; cases D6
      · have g7' : σ1 7 = .pointer (some ⟨ke, 0, none⟩) := g7
        repeat' (first | (simp (disch := omega) only [push_cast, seval, g7', addr_add_eq, Nat.zero_add]) | refine iX ?_ ?_ <;> intros | refine aI (by omega) ?_ | refine dq ?_)
        exact ⟨⟨g6, rfl, gi, lW, hB2⟩, .inr ⟨q0, q1, q2, q3, q4, q5, q6, hT2, ⟨v', h6, ho2, hE2⟩, fun _ => rfl, k8⟩⟩
    | 8, hoj =>
      obtain rfl := Option.some.inj hoj
      have D6 := waits_at' hwt rfl (i := 6) (by simp)
      have D7 := waits_at' hwt rfl (i := 7) (by simp)
      rcases hI with ⟨d6, _⟩ | ⟨q0, q1, q2, q3, q4, q5, q6, hT2, ⟨v', h6, ho2, hE2⟩, k7, k8⟩
      · rw [d6] at D6; cases D6
      · have h7 := k7 D7
        repeat' (first | (simp (disch := omega) only [push_cast, seval, h7, addr_add_eq, Nat.zero_add]) | refine iX ?_ ?_ <;> intros | refine aI (by omega) ?_ | refine dq ?_)
        exact ⟨⟨g6, g7, gi, lW, hB2⟩, .inr ⟨q0, q1, q2, q3, q4, q5, q6, hT2, ⟨v', h6, ho2, hE2⟩, by first | exact k7 | exact fun _ => rfl, fun _ => rfl⟩⟩
    | 9, hoj =>
      obtain rfl := Option.some.inj hoj
      have D6 := waits_at' hwt rfl (i := 6) (by simp)
      have D8 := waits_at' hwt rfl (i := 8) (by simp)
      rcases hI with ⟨d6, _⟩ | ⟨q0, q1, q2, q3, q4, q5, q6, hT2, ⟨v', h6, ho2, hE2⟩, k7, k8⟩
      · rw [d6] at D6; cases D6
      · have h8 := k8 D8
        rw [hDj, if_neg (by simp)] at hE2
        have hc : w2.cell? ⟨ke, 4, none⟩ = some v := hE2.cell 4
        have hf := hE2.frozen 4
        obtain ⟨oo, oc, rfl⟩ := own_form ho2
        have hc8 : Chg w2 (w2.setCell ⟨ke, 4, none⟩ (.slice oo (ds ++ [(pI s (-4611686018427387904) 4611686018427387904).1]).length oc)) [ke] := chg_setCell w2 (by simp) _
        have hE8 : Blk (w2.setCell ⟨ke, 4, none⟩ (.slice oo (ds ++ [(pI s (-4611686018427387904) 4611686018427387904).1]).length oc)) ke #[c0, c1, c2, c3, .slice oo (ds ++ [(pI s (-4611686018427387904) 4611686018427387904).1]).length oc] 43 := hE2.set 4 _
        have hO8 := own_chg ho2 hc8 (by intro k hk; simp at hk; omega)
        have hT8 := hT2.chg hc8 (by simp; omega) (by simp; omega) (by simp; omega)
        have lW8 : R (w2.setCell ⟨ke, 4, none⟩ (.slice oo (ds ++ [(pI s (-4611686018427387904) 4611686018427387904).1]).length oc)) := hRc _ _ _ lW hc8 (by intro k hk; simp at hk; omega)
        have hB8 := Nat.le_trans hB2 hc8.size
        repeat' (first | (simp (disch := omega) only [push_cast, seval, h8, h6, hc, hf]) | refine iX ?_ ?_ <;> intros | refine aI (by omega) ?_ | refine dq ?_)
        exact ⟨⟨g6, g7, gi, lW8, hB8⟩, .inr ⟨q0, q1, q2, q3, q4, q5, q6, hT8, ⟨_, by first | exact h6 | rfl, hO8, by simpa using hE8⟩, k7, by first | exact k8 | exact fun _ => rfl⟩⟩
    | n + 10, hoj => exact absurd hoj (by simp [r15_13])
  · intro D σ1 w2 hI hall
    obtain ⟨⟨g6, g7, gi, lW, hB2⟩, hI⟩ := hI
    have hall : ∀ j, j < 10 → D j = true := hall
    rcases hI with ⟨d6, _⟩ | ⟨q0, q1, q2, q3, q4, q5, q6, hT2, ⟨v', h6, ho2, hE2⟩, k7, k8⟩
    · rw [hall 6 (by decide)] at d6; cases d6
    · rw [hall 9 (by decide), if_pos rfl] at hE2
      exact hK σ1 w2 v' g6 g7 gi lW hT2 hE2 ho2 hB2
set_option maxHeartbeats 2000000 in
theorem jreg3_c {R : World → Prop} {kt d ke B : Nat} {l : List UInt8} {s : St} {ds : List ByteArray} {v vi c0 c1 c2 c4 : Value} {K : Env → World → Prop} {σ : Env} {w : World} (e6 : σ 6 = pt kt) (e7 : σ 7 = pt ke) (ei : σ 10 = vi) (hW : R w) (hT : RmS w kt d l s) (hE : Blk w ke #[c0, c1, c2, v, c4] 43) (hO : OwnS w B v ds)
    (kb : kt < B ∧ d < B ∧ ke < B) (hRc : ∀ (w1 w2 : World) (ks : List Nat), R w1 → Chg w1 w2 ks → (∀ k ∈ ks, k = kt ∨ k = ke ∨ B ≤ k) → R w2) (kn : ke ≠ kt ∧ ke ≠ d) (hBw : B ≤ w.heap.size) (hcn : ds.length ≤ 100000) (hll : l.length ≤ 140737488355000)
    (hK : ∀ (σ1 : Env) (w2 : World) (v' : Value), σ1 6 = pt kt → σ1 7 = pt ke → σ1 10 = vi → R w2 → RmS w2 kt d l (pT s).2 → Blk w2 ke #[c0, c1, c2, v', c4] 43 → OwnS w2 B v' (ds ++ [(pT s).1]) → B ≤ w2.heap.size → K σ1 w2) :
    anyA Try.prog r32_12 [[], [0], [1], [], [3], [4], [2, 5, 4], [0, 1, 2, 3, 4, 5, 6], [7, 0, 1, 2, 3, 4, 5, 6], [8, 6, 6, 0, 1, 2, 3, 4, 5, 6]] K σ w := by
  refine ⟨fun D σ w => JI (fun w => RmS w kt d l s) (fun w => RmS w kt d l (pT s).2) (fun w => OwnS w B v ds) (fun w v' => OwnS w B v' (ds ++ [(pT s).1])) (fun w v' => Blk w ke #[c0, c1, c2, v', c4] 43) R B 9 (pt kt) (pt ke) vi (.pointer (some ⟨ke, 2, none⟩)) (.pointer (some ⟨ke, 3, none⟩)) v (.string (pT s).1) (D 0) (D 1) (D 2) (D 3) (D 4) (D 5) (D 6) (D 7) (D 8) (D 9) (σ 6) (σ 7) (σ 10) (σ 37) (σ 38) (σ 39) (σ 40) (σ 41) (σ 42) (σ 43) (σ 44) (σ 45) w, ?_, ?_, ?_⟩
  · intro w' hl
    exact ⟨⟨e6, e7, ei, hRc _ _ [] hW (Chg.of_later hl) (by simp), Nat.le_trans hBw hl.size⟩, .inl ⟨rfl, rfl, rfl, rfl, hE.chg (Chg.of_later (ks := []) hl) (by simp), own_later hO hl, hT.chg (Chg.of_later (ks := []) hl) (by simp) (by simp), (fun h => by cases h), (fun h => by cases h), (fun h => by cases h), (fun h => by cases h), (fun h => by cases h), (fun h => by cases h)⟩⟩
  · intro D σ1 w2 j o hcl hI hoj hDj hwt
    obtain ⟨⟨g6, g7, gi, lW, hB2⟩, hI⟩ := hI
    match j, hoj with
    | 0, hoj =>
      obtain rfl := Option.some.inj hoj
      rcases hI with ⟨d6, d7, d8, d9, hE2, hO2, hT2, k0, k1, k2, k3, k4, k5⟩ | ⟨q0, _⟩
      · have g7' : σ1 7 = .pointer (some ⟨ke, 0, none⟩) := g7
        repeat' (first | (simp (disch := omega) only [push_cast, seval, g7', addr_add_eq, Nat.zero_add]) | refine iX ?_ ?_ <;> intros | refine aI (by omega) ?_ | refine dq ?_)
        exact ⟨⟨g6, rfl, gi, lW, hB2⟩, .inl ⟨d6, d7, d8, d9, hE2, hO2, hT2, fun _ => rfl, k1, k2, k3, k4, k5⟩⟩
      · rw [q0] at hDj; cases hDj
    | 1, hoj =>
      obtain rfl := Option.some.inj hoj
      rcases hI with ⟨d6, d7, d8, d9, hE2, hO2, hT2, k0, k1, k2, k3, k4, k5⟩ | ⟨_, q0, _⟩
      · have h0 := k0 (waits_at' hwt rfl (by simp))
        repeat' (first | (simp (disch := omega) only [push_cast, seval, h0, addr_add_eq, Nat.zero_add]) | refine iX ?_ ?_ <;> intros | refine aI (by omega) ?_ | refine dq ?_)
        exact ⟨⟨g6, g7, gi, lW, hB2⟩, .inl ⟨d6, d7, d8, d9, hE2, hO2, hT2, fun _ => rfl, fun _ => rfl, k2, k3, k4, k5⟩⟩
      · rw [q0] at hDj; cases hDj
    | 2, hoj =>
      obtain rfl := Option.some.inj hoj
      rcases hI with ⟨d6, d7, d8, d9, hE2, hO2, hT2, k0, k1, k2, k3, k4, k5⟩ | ⟨_, _, q0, _⟩
      · have h1 := k1 (waits_at' hwt rfl (by simp))
        have hc : w2.cell? ⟨ke, 3, none⟩ = some v := hE2.cell 3
        repeat' (first | (simp (disch := omega) only [push_cast, seval, h1, hc, addr_add_eq, Nat.zero_add]) | refine iX ?_ ?_ <;> intros | refine aI (by omega) ?_ | refine dq ?_)
        exact ⟨⟨g6, g7, gi, lW, hB2⟩, .inl ⟨d6, d7, d8, d9, hE2, hO2, hT2, k0, fun _ => rfl, fun _ => rfl, k3, k4, k5⟩⟩
      · rw [q0] at hDj; cases hDj
    | 3, hoj =>
      obtain rfl := Option.some.inj hoj
      rcases hI with ⟨d6, d7, d8, d9, hE2, hO2, hT2, k0, k1, k2, k3, k4, k5⟩ | ⟨_, _, _, q0, _⟩
      · repeat' (first | (simp (disch := omega) only [push_cast, seval, g6]) | refine iX ?_ ?_ <;> intros | refine aI (by omega) ?_ | refine dq ?_)
        exact ⟨⟨rfl, g7, gi, lW, hB2⟩, .inl ⟨d6, d7, d8, d9, hE2, hO2, hT2, k0, k1, k2, fun _ => rfl, k4, k5⟩⟩
      · rw [q0] at hDj; cases hDj
    | 4, hoj =>
      obtain rfl := Option.some.inj hoj
      rcases hI with ⟨d6, d7, d8, d9, hE2, hO2, hT2, k0, k1, k2, k3, k4, k5⟩ | ⟨_, _, _, _, q0, _⟩
      · have h3 := k3 (waits_at' hwt rfl (by simp))
        have d5 : D 5 = false := by
          cases h : D 5 with
          | false => rfl
          | true => have := waits_at' (hcl 5 h) rfl (i := 4) (by simp); rw [hDj] at this; cases this
        rw [hDj, if_neg (by simp)] at hT2
        repeat' (first | (simp (disch := omega) only [push_cast, seval, h3]) | refine iX ?_ ?_ <;> intros | refine aI (by omega) ?_ | refine dq ?_)
        refine (rTx_c kt d l s w2 hT2 hll).mono ?_
        rintro _ w3 ⟨rfl, hT3, g⟩
        have hE3 := hE2.chg g (by simp; omega)
        have hO3 := own_chg hO2 g (by intro k hk; simp at hk; omega)
        have lW3 : R w3 := hRc _ _ _ lW g (by intro k hk; simp at hk; omega)
        have hB3 := Nat.le_trans hB2 g.size
        repeat' (first | (simp (disch := omega) only [push_cast, seval]) | refine iX ?_ ?_ <;> intros | refine aI (by omega) ?_ | refine dq ?_)
        exact ⟨⟨g6, g7, gi, lW3, hB3⟩, .inl ⟨d6, d7, d8, d9, hE3, hO3, hT3, k0, k1, k2, by first | exact k3 | exact fun _ => rfl, fun _ => rfl, fun h => by simp [d5] at h⟩⟩
      · rw [q0] at hDj; cases hDj
    | 5, hoj =>
      obtain rfl := Option.some.inj hoj
      rcases hI with ⟨d6, d7, d8, d9, hE2, hO2, hT2, k0, k1, k2, k3, k4, k5⟩ | ⟨_, _, _, _, _, q0, _⟩
      · have h4 := k4 (waits_at' hwt rfl (by simp))
        repeat' (first | (simp (disch := omega) only [push_cast, seval, h4]) | refine iX ?_ ?_ <;> intros | refine aI (by omega) ?_ | refine dq ?_)
        have l3 := later_alloc w2 (.cells #[.string (pT s).1] 9)
        have D4 : D 4 = true := waits_at' hwt rfl (by simp)
        rw [D4, if_pos rfl] at hT2
        have hT3 := hT2.chg (Chg.of_later (ks := []) l3) (by simp) (by simp)
        exact ⟨⟨g6, g7, gi, hRc _ _ [] lW (Chg.of_later l3) (by simp), Nat.le_trans hB2 l3.size⟩, .inl ⟨d6, d7, d8, d9, hE2.chg (Chg.of_later (ks := []) l3) (by simp), own_later hO2 l3, by show (if D 4 = true then _ else _); rw [D4, if_pos rfl]; exact hT3, k0, k1, k2, k3, fun _ => rfl, fun _ => ⟨_, rfl, Blk.new _ _ _, hB2⟩⟩⟩
      · rw [q0] at hDj; cases hDj
    | 6, hoj =>
      obtain rfl := Option.some.inj hoj
      have D2 := waits_at' hwt rfl (i := 2) (by simp)
      have D5 := waits_at' hwt rfl (i := 5) (by simp)
      have D4 := waits_at' hwt rfl (i := 4) (by simp)
      have D1 := waits_at' (hcl 2 D2) rfl (i := 1) (by simp)
      have D0 := waits_at' (hcl 1 D1) rfl (i := 0) (by simp)
      have D3 := waits_at' (hcl 4 D4) rfl (i := 3) (by simp)
      rcases hI with ⟨d6, d7, d8, d9, hE2, hO2, hT2, k0, k1, k2, k3, k4, k5⟩ | ⟨_, _, _, _, _, _, q0, _⟩
      · have h2 := k2 D2
        obtain ⟨b, h5, hb, hbB⟩ := k5 D5
        rw [D4, if_pos rfl] at hT2
        obtain ⟨oo, oc, hv⟩ := own_form hO2
        have hx := lit_sl hb
        repeat' (first | (simp (disch := omega) only [push_cast, seval, h2, h5]) | refine iX ?_ ?_ <;> intros | refine aI (by omega) ?_ | refine dq ?_)
        refine vAppend_ss (r := [(pT s).1]) hO2 hx (by simp; omega) hB2 ?_
        intro v' w3 ho3 hg _
        have hge := own_ge hO2
        have lW3 : R w3 := hRc _ _ _ lW (Chg.of_grown hg) (fun k hk => by have := hge k hk; omega)
        have hE3 := grown_blk hO2 hg hE2 kb.2.2
        have hT3 := hT2.chg (Chg.of_grown hg) (fun h => by have := hge _ h; omega) (fun h => by have := hge _ h; omega)
        have hB3 := Nat.le_trans hB2 hg.size
        repeat' (first | (simp (disch := omega) only [push_cast, seval]) | refine iX ?_ ?_ <;> intros | refine aI (by omega) ?_ | refine dq ?_)
        exact ⟨⟨g6, g7, gi, lW3, hB3⟩, .inr ⟨D0, D1, D2, D3, D4, D5, rfl, hT3, ⟨v', rfl, ho3, by show Blk w3 ke _ _; first | (rw [show ((9 == 6) || D 9) = false from d9, if_neg (by simp)]; exact hE3) | (rw [d9, if_neg (by simp)]; exact hE3) | (simp only [d9]; simpa using hE3)⟩, (fun h => by have h : D 7 = true := h; rw [d7] at h; cases h), (fun h => by have h : D 8 = true := h; rw [d8] at h; cases h)⟩⟩
      · rw [q0] at hDj; cases hDj
    | 7, hoj =>
      obtain rfl := Option.some.inj hoj
      have D6 := waits_at' hwt rfl (i := 6) (by simp)
      rcases hI with ⟨d6, _⟩ | ⟨q0, q1, q2, q3, q4, q5, q6, hT2, ⟨v', h6, ho2, hE2⟩, k7, k8⟩
      · rw [d6] at D6; cases D6
      · have g7' : σ1 7 = .pointer (some ⟨ke, 0, none⟩) := g7
        repeat' (first | (simp (disch := omega) only [push_cast, seval, g7', addr_add_eq, Nat.zero_add]) | refine iX ?_ ?_ <;> intros | refine aI (by omega) ?_ | refine dq ?_)
        exact ⟨⟨g6, rfl, gi, lW, hB2⟩, .inr ⟨q0, q1, q2, q3, q4, q5, q6, hT2, ⟨v', h6, ho2, hE2⟩, fun _ => rfl, k8⟩⟩
    | 8, hoj =>
      obtain rfl := Option.some.inj hoj
      have D6 := waits_at' hwt rfl (i := 6) (by simp)
      have D7 := waits_at' hwt rfl (i := 7) (by simp)
      rcases hI with ⟨d6, _⟩ | ⟨q0, q1, q2, q3, q4, q5, q6, hT2, ⟨v', h6, ho2, hE2⟩, k7, k8⟩
      · rw [d6] at D6; cases D6
      · have h7 := k7 D7
        repeat' (first | (simp (disch := omega) only [push_cast, seval, h7, addr_add_eq, Nat.zero_add]) | refine iX ?_ ?_ <;> intros | refine aI (by omega) ?_ | refine dq ?_)
        exact ⟨⟨g6, g7, gi, lW, hB2⟩, .inr ⟨q0, q1, q2, q3, q4, q5, q6, hT2, ⟨v', h6, ho2, hE2⟩, by first | exact k7 | exact fun _ => rfl, fun _ => rfl⟩⟩
    | 9, hoj =>
      obtain rfl := Option.some.inj hoj
      have D6 := waits_at' hwt rfl (i := 6) (by simp)
      have D8 := waits_at' hwt rfl (i := 8) (by simp)
      rcases hI with ⟨d6, _⟩ | ⟨q0, q1, q2, q3, q4, q5, q6, hT2, ⟨v', h6, ho2, hE2⟩, k7, k8⟩
      · rw [d6] at D6; cases D6
      · have h8 := k8 D8
        rw [hDj, if_neg (by simp)] at hE2
        have hc : w2.cell? ⟨ke, 3, none⟩ = some v := hE2.cell 3
        have hf := hE2.frozen 3
        obtain ⟨oo, oc, rfl⟩ := own_form ho2
        have hc8 : Chg w2 (w2.setCell ⟨ke, 3, none⟩ (.slice oo (ds ++ [(pT s).1]).length oc)) [ke] := chg_setCell w2 (by simp) _
        have hE8 : Blk (w2.setCell ⟨ke, 3, none⟩ (.slice oo (ds ++ [(pT s).1]).length oc)) ke #[c0, c1, c2, .slice oo (ds ++ [(pT s).1]).length oc, c4] 43 := hE2.set 3 _
        have hO8 := own_chg ho2 hc8 (by intro k hk; simp at hk; omega)
        have hT8 := hT2.chg hc8 (by simp; omega) (by simp; omega)
        have lW8 : R (w2.setCell ⟨ke, 3, none⟩ (.slice oo (ds ++ [(pT s).1]).length oc)) := hRc _ _ _ lW hc8 (by intro k hk; simp at hk; omega)
        have hB8 := Nat.le_trans hB2 hc8.size
        repeat' (first | (simp (disch := omega) only [push_cast, seval, h8, h6, hc, hf]) | refine iX ?_ ?_ <;> intros | refine aI (by omega) ?_ | refine dq ?_)
        exact ⟨⟨g6, g7, gi, lW8, hB8⟩, .inr ⟨q0, q1, q2, q3, q4, q5, q6, hT8, ⟨_, by first | exact h6 | rfl, hO8, by simpa using hE8⟩, k7, by first | exact k8 | exact fun _ => rfl⟩⟩
    | n + 10, hoj => exact absurd hoj (by simp [r32_12])
  · intro D σ1 w2 hI hall
    obtain ⟨⟨g6, g7, gi, lW, hB2⟩, hI⟩ := hI
    have hall : ∀ j, j < 10 → D j = true := hall
    rcases hI with ⟨d6, _⟩ | ⟨q0, q1, q2, q3, q4, q5, q6, hT2, ⟨v', h6, ho2, hE2⟩, k7, k8⟩
    · rw [hall 6 (by decide)] at d6; cases d6
    · rw [hall 9 (by decide), if_pos rfl] at hE2
      exact hK σ1 w2 v' g6 g7 gi lW hT2 hE2 ho2 hB2
set_option maxHeartbeats 2000000 in
theorem jreg4_c {R : World → Prop} {kt d ke B : Nat} {l : List UInt8} {s : St} {ds : List Int} {v vi c0 c1 c2 c3 : Value} {K : Env → World → Prop} {σ : Env} {w : World} (e6 : σ 6 = pt kt) (e7 : σ 7 = pt ke) (ei : σ 11 = vi) (hW : R w) (hT : RmS w kt d l s) (hE : Blk w ke #[c0, c1, c2, c3, v] 43) (hO : OwnI w B 3 v ds)
    (kb : kt < B ∧ d < B ∧ ke < B) (hRc : ∀ (w1 w2 : World) (ks : List Nat), R w1 → Chg w1 w2 ks → (∀ k ∈ ks, k = kt ∨ k = ke ∨ B ≤ k) → R w2) (kn : ke ≠ kt ∧ ke ≠ d) (hBw : B ≤ w.heap.size) (hcn : ds.length ≤ 100000) (hll : l.length ≤ 140737488355000)
    (hK : ∀ (σ1 : Env) (w2 : World) (v' : Value), σ1 6 = pt kt → σ1 7 = pt ke → σ1 11 = vi → R w2 → RmS w2 kt d l (pI s (-4611686018427387904) 4611686018427387904).2 → Blk w2 ke #[c0, c1, c2, c3, v'] 43 → OwnI w2 B 3 v' (ds ++ [(pI s (-4611686018427387904) 4611686018427387904).1]) → B ≤ w2.heap.size → K σ1 w2) :
    anyA Try.prog r32_16 [[], [0], [1], [], [3], [4], [2, 5, 4], [0, 1, 2, 3, 4, 5, 6], [7, 0, 1, 2, 3, 4, 5, 6], [8, 6, 6, 0, 1, 2, 3, 4, 5, 6]] K σ w := by
  refine ⟨fun D σ w => JI (fun w => RmS w kt d l s) (fun w => RmS w kt d l (pI s (-4611686018427387904) 4611686018427387904).2) (fun w => OwnI w B 3 v ds) (fun w v' => OwnI w B 3 v' (ds ++ [(pI s (-4611686018427387904) 4611686018427387904).1])) (fun w v' => Blk w ke #[c0, c1, c2, c3, v'] 43) R B 3 (pt kt) (pt ke) vi (.pointer (some ⟨ke, 2, none⟩)) (.pointer (some ⟨ke, 4, none⟩)) v (.int .i64 (pI s (-4611686018427387904) 4611686018427387904).1) (D 0) (D 1) (D 2) (D 3) (D 4) (D 5) (D 6) (D 7) (D 8) (D 9) (σ 6) (σ 7) (σ 11) (σ 53) (σ 54) (σ 55) (σ 56) (σ 57) (σ 58) (σ 59) (σ 60) (σ 61) w, ?_, ?_, ?_⟩
  · intro w' hl
    exact ⟨⟨e6, e7, ei, hRc _ _ [] hW (Chg.of_later hl) (by simp), Nat.le_trans hBw hl.size⟩, .inl ⟨rfl, rfl, rfl, rfl, hE.chg (Chg.of_later (ks := []) hl) (by simp), own_later hO hl, hT.chg (Chg.of_later (ks := []) hl) (by simp) (by simp), (fun h => by cases h), (fun h => by cases h), (fun h => by cases h), (fun h => by cases h), (fun h => by cases h), (fun h => by cases h)⟩⟩
  · intro D σ1 w2 j o hcl hI hoj hDj hwt
    obtain ⟨⟨g6, g7, gi, lW, hB2⟩, hI⟩ := hI
    match j, hoj with
    | 0, hoj =>
      obtain rfl := Option.some.inj hoj
      rcases hI with ⟨d6, d7, d8, d9, hE2, hO2, hT2, k0, k1, k2, k3, k4, k5⟩ | ⟨q0, _⟩
      · have g7' : σ1 7 = .pointer (some ⟨ke, 0, none⟩) := g7
        repeat' (first | (simp (disch := omega) only [push_cast, seval, g7', addr_add_eq, Nat.zero_add]) | refine iX ?_ ?_ <;> intros | refine aI (by omega) ?_ | refine dq ?_)
        exact ⟨⟨g6, rfl, gi, lW, hB2⟩, .inl ⟨d6, d7, d8, d9, hE2, hO2, hT2, fun _ => rfl, k1, k2, k3, k4, k5⟩⟩
      · rw [q0] at hDj; cases hDj
    | 1, hoj =>
      obtain rfl := Option.some.inj hoj
      rcases hI with ⟨d6, d7, d8, d9, hE2, hO2, hT2, k0, k1, k2, k3, k4, k5⟩ | ⟨_, q0, _⟩
      · have h0 := k0 (waits_at' hwt rfl (by simp))
        repeat' (first | (simp (disch := omega) only [push_cast, seval, h0, addr_add_eq, Nat.zero_add]) | refine iX ?_ ?_ <;> intros | refine aI (by omega) ?_ | refine dq ?_)
        exact ⟨⟨g6, g7, gi, lW, hB2⟩, .inl ⟨d6, d7, d8, d9, hE2, hO2, hT2, fun _ => rfl, fun _ => rfl, k2, k3, k4, k5⟩⟩
      · rw [q0] at hDj; cases hDj
    | 2, hoj =>
      obtain rfl := Option.some.inj hoj
      rcases hI with ⟨d6, d7, d8, d9, hE2, hO2, hT2, k0, k1, k2, k3, k4, k5⟩ | ⟨_, _, q0, _⟩
      · have h1 := k1 (waits_at' hwt rfl (by simp))
        have hc : w2.cell? ⟨ke, 4, none⟩ = some v := hE2.cell 4
        repeat' (first | (simp (disch := omega) only [push_cast, seval, h1, hc, addr_add_eq, Nat.zero_add]) | refine iX ?_ ?_ <;> intros | refine aI (by omega) ?_ | refine dq ?_)
        exact ⟨⟨g6, g7, gi, lW, hB2⟩, .inl ⟨d6, d7, d8, d9, hE2, hO2, hT2, k0, fun _ => rfl, fun _ => rfl, k3, k4, k5⟩⟩
      · rw [q0] at hDj; cases hDj
    | 3, hoj =>
      obtain rfl := Option.some.inj hoj
      rcases hI with ⟨d6, d7, d8, d9, hE2, hO2, hT2, k0, k1, k2, k3, k4, k5⟩ | ⟨_, _, _, q0, _⟩
      · repeat' (first | (simp (disch := omega) only [push_cast, seval, g6]) | refine iX ?_ ?_ <;> intros | refine aI (by omega) ?_ | refine dq ?_)
        exact ⟨⟨rfl, g7, gi, lW, hB2⟩, .inl ⟨d6, d7, d8, d9, hE2, hO2, hT2, k0, k1, k2, fun _ => rfl, k4, k5⟩⟩
      · rw [q0] at hDj; cases hDj
    | 4, hoj =>
      obtain rfl := Option.some.inj hoj
      rcases hI with ⟨d6, d7, d8, d9, hE2, hO2, hT2, k0, k1, k2, k3, k4, k5⟩ | ⟨_, _, _, _, q0, _⟩
      · have h3 := k3 (waits_at' hwt rfl (by simp))
        have d5 : D 5 = false := by
          cases h : D 5 with
          | false => rfl
          | true => have := waits_at' (hcl 5 h) rfl (i := 4) (by simp); rw [hDj] at this; cases this
        rw [hDj, if_neg (by simp)] at hT2
        repeat' (first | (simp (disch := omega) only [push_cast, seval, h3]) | refine iX ?_ ?_ <;> intros | refine aI (by omega) ?_ | refine dq ?_)
        refine (rN_c kt d l s (-4611686018427387904) 4611686018427387904 w2 hT2 hll).mono ?_
        rintro _ w3 ⟨rfl, hT3, g⟩
        have hE3 := hE2.chg g (by simp; omega)
        have hO3 := own_chg hO2 g (by intro k hk; simp at hk; omega)
        have lW3 : R w3 := hRc _ _ _ lW g (by intro k hk; simp at hk; omega)
        have hB3 := Nat.le_trans hB2 g.size
        repeat' (first | (simp (disch := omega) only [push_cast, seval]) | refine iX ?_ ?_ <;> intros | refine aI (by omega) ?_ | refine dq ?_)
        exact ⟨⟨g6, g7, gi, lW3, hB3⟩, .inl ⟨d6, d7, d8, d9, hE3, hO3, hT3, k0, k1, k2, by first | exact k3 | exact fun _ => rfl, fun _ => rfl, fun h => by simp [d5] at h⟩⟩
      · rw [q0] at hDj; cases hDj
    | 5, hoj =>
      obtain rfl := Option.some.inj hoj
      rcases hI with ⟨d6, d7, d8, d9, hE2, hO2, hT2, k0, k1, k2, k3, k4, k5⟩ | ⟨_, _, _, _, _, q0, _⟩
      · have h4 := k4 (waits_at' hwt rfl (by simp))
        repeat' (first | (simp (disch := omega) only [push_cast, seval, h4]) | refine iX ?_ ?_ <;> intros | refine aI (by omega) ?_ | refine dq ?_)
        have l3 := later_alloc w2 (.cells #[.int .i64 (pI s (-4611686018427387904) 4611686018427387904).1] 3)
        have D4 : D 4 = true := waits_at' hwt rfl (by simp)
        rw [D4, if_pos rfl] at hT2
        have hT3 := hT2.chg (Chg.of_later (ks := []) l3) (by simp) (by simp)
        exact ⟨⟨g6, g7, gi, hRc _ _ [] lW (Chg.of_later l3) (by simp), Nat.le_trans hB2 l3.size⟩, .inl ⟨d6, d7, d8, d9, hE2.chg (Chg.of_later (ks := []) l3) (by simp), own_later hO2 l3, by show (if D 4 = true then _ else _); rw [D4, if_pos rfl]; exact hT3, k0, k1, k2, k3, fun _ => rfl, fun _ => ⟨_, rfl, Blk.new _ _ _, hB2⟩⟩⟩
      · rw [q0] at hDj; cases hDj
    | 6, hoj =>
      obtain rfl := Option.some.inj hoj
      have D2 := waits_at' hwt rfl (i := 2) (by simp)
      have D5 := waits_at' hwt rfl (i := 5) (by simp)
      have D4 := waits_at' hwt rfl (i := 4) (by simp)
      have D1 := waits_at' (hcl 2 D2) rfl (i := 1) (by simp)
      have D0 := waits_at' (hcl 1 D1) rfl (i := 0) (by simp)
      have D3 := waits_at' (hcl 4 D4) rfl (i := 3) (by simp)
      rcases hI with ⟨d6, d7, d8, d9, hE2, hO2, hT2, k0, k1, k2, k3, k4, k5⟩ | ⟨_, _, _, _, _, _, q0, _⟩
      · have h2 := k2 D2
        obtain ⟨b, h5, hb, hbB⟩ := k5 D5
        rw [D4, if_pos rfl] at hT2
        obtain ⟨oo, oc, hv⟩ := own_form hO2
        have hx := lit_sl hb
        repeat' (first | (simp (disch := omega) only [push_cast, seval, h2, h5]) | refine iX ?_ ?_ <;> intros | refine aI (by omega) ?_ | refine dq ?_)
        refine vAppend_is (r := [(pI s (-4611686018427387904) 4611686018427387904).1]) Try.underlying39 ti3 rfl hO2 hx (by simp; omega) (by decide) hB2 ?_
        intro v' w3 ho3 hg _ _
        have hge := own_ge hO2
        have lW3 : R w3 := hRc _ _ _ lW (Chg.of_grown hg) (fun k hk => by have := hge k hk; omega)
        have hE3 := grown_blk hO2 hg hE2 kb.2.2
        have hT3 := hT2.chg (Chg.of_grown hg) (fun h => by have := hge _ h; omega) (fun h => by have := hge _ h; omega)
        have hB3 := Nat.le_trans hB2 hg.size
        repeat' (first | (simp (disch := omega) only [push_cast, seval]) | refine iX ?_ ?_ <;> intros | refine aI (by omega) ?_ | refine dq ?_)
        exact ⟨⟨g6, g7, gi, lW3, hB3⟩, .inr ⟨D0, D1, D2, D3, D4, D5, rfl, hT3, ⟨v', rfl, ho3, by show Blk w3 ke _ _; first | (rw [show ((9 == 6) || D 9) = false from d9, if_neg (by simp)]; exact hE3) | (rw [d9, if_neg (by simp)]; exact hE3) | (simp only [d9]; simpa using hE3)⟩, (fun h => by have h : D 7 = true := h; rw [d7] at h; cases h), (fun h => by have h : D 8 = true := h; rw [d8] at h; cases h)⟩⟩
      · rw [q0] at hDj; cases hDj
    | 7, hoj =>
      obtain rfl := Option.some.inj hoj
      have D6 := waits_at' hwt rfl (i := 6) (by simp)
      rcases hI with ⟨d6, _⟩ | ⟨q0, q1, q2, q3, q4, q5, q6, hT2, ⟨v', h6, ho2, hE2⟩, k7, k8⟩
      · rw [d6] at D6; cases D6
      · have g7' : σ1 7 = .pointer (some ⟨ke, 0, none⟩) := g7
        repeat' (first | (simp (disch := omega) only [push_cast, seval, g7', addr_add_eq, Nat.zero_add]) | refine iX ?_ ?_ <;> intros | refine aI (by omega) ?_ | refine dq ?_)
        exact ⟨⟨g6, rfl, gi, lW, hB2⟩, .inr ⟨q0, q1, q2, q3, q4, q5, q6, hT2, ⟨v', h6, ho2, hE2⟩, fun _ => rfl, k8⟩⟩
    | 8, hoj =>
      obtain rfl := Option.some.inj hoj
      have D6 := waits_at' hwt rfl (i := 6) (by simp)
      have D7 := waits_at' hwt rfl (i := 7) (by simp)
      rcases hI with ⟨d6, _⟩ | ⟨q0, q1, q2, q3, q4, q5, q6, hT2, ⟨v', h6, ho2, hE2⟩, k7, k8⟩
      · rw [d6] at D6; cases D6
      · have h7 := k7 D7
        repeat' (first | (simp (disch := omega) only [push_cast, seval, h7, addr_add_eq, Nat.zero_add]) | refine iX ?_ ?_ <;> intros | refine aI (by omega) ?_ | refine dq ?_)
        exact ⟨⟨g6, g7, gi, lW, hB2⟩, .inr ⟨q0, q1, q2, q3, q4, q5, q6, hT2, ⟨v', h6, ho2, hE2⟩, by first | exact k7 | exact fun _ => rfl, fun _ => rfl⟩⟩
    | 9, hoj =>
      obtain rfl := Option.some.inj hoj
      have D6 := waits_at' hwt rfl (i := 6) (by simp)
      have D8 := waits_at' hwt rfl (i := 8) (by simp)
      rcases hI with ⟨d6, _⟩ | ⟨q0, q1, q2, q3, q4, q5, q6, hT2, ⟨v', h6, ho2, hE2⟩, k7, k8⟩
      · rw [d6] at D6; cases D6
      · have h8 := k8 D8
        rw [hDj, if_neg (by simp)] at hE2
        have hc : w2.cell? ⟨ke, 4, none⟩ = some v := hE2.cell 4
        have hf := hE2.frozen 4
        obtain ⟨oo, oc, rfl⟩ := own_form ho2
        have hc8 : Chg w2 (w2.setCell ⟨ke, 4, none⟩ (.slice oo (ds ++ [(pI s (-4611686018427387904) 4611686018427387904).1]).length oc)) [ke] := chg_setCell w2 (by simp) _
        have hE8 : Blk (w2.setCell ⟨ke, 4, none⟩ (.slice oo (ds ++ [(pI s (-4611686018427387904) 4611686018427387904).1]).length oc)) ke #[c0, c1, c2, c3, .slice oo (ds ++ [(pI s (-4611686018427387904) 4611686018427387904).1]).length oc] 43 := hE2.set 4 _
        have hO8 := own_chg ho2 hc8 (by intro k hk; simp at hk; omega)
        have hT8 := hT2.chg hc8 (by simp; omega) (by simp; omega)
        have lW8 : R (w2.setCell ⟨ke, 4, none⟩ (.slice oo (ds ++ [(pI s (-4611686018427387904) 4611686018427387904).1]).length oc)) := hRc _ _ _ lW hc8 (by intro k hk; simp at hk; omega)
        have hB8 := Nat.le_trans hB2 hc8.size
        repeat' (first | (simp (disch := omega) only [push_cast, seval, h8, h6, hc, hf]) | refine iX ?_ ?_ <;> intros | refine aI (by omega) ?_ | refine dq ?_)
        exact ⟨⟨g6, g7, gi, lW8, hB8⟩, .inr ⟨q0, q1, q2, q3, q4, q5, q6, hT8, ⟨_, by first | exact h6 | rfl, hO8, by simpa using hE8⟩, k7, by first | exact k8 | exact fun _ => rfl⟩⟩
    | n + 10, hoj => exact absurd hoj (by simp [r32_16])
  · intro D σ1 w2 hI hall
    obtain ⟨⟨g6, g7, gi, lW, hB2⟩, hI⟩ := hI
    have hall : ∀ j, j < 10 → D j = true := hall
    rcases hI with ⟨d6, _⟩ | ⟨q0, q1, q2, q3, q4, q5, q6, hT2, ⟨v', h6, ho2, hE2⟩, k7, k8⟩
    · rw [hall 6 (by decide)] at d6; cases d6
    · rw [hall 9 (by decide), if_pos rfl] at hE2
      exact hK σ1 w2 v' g6 g7 gi lW hT2 hE2 ho2 hB2
end Go.Proofs.Ytcajkjbempagaaa
end
section
set_option linter.unusedSimpArgs false
namespace Go.Vc
theorem resK_cells {P : Program} {R : Value → World → Prop} {σ : Env} {w : World} {a s : Nat} {t : TypeId} {rs : List ResultVar} {acc l : List Value} {ad : Addr} (ha : σ a = .pointer (some ad)) (hA : aggD P t (P.underlying t) = some s) (hl : cellsAt w ad s = some l)
    (hR : resK P rs (acc ++ [.agg l.toArray]) σ R w) : resK P (.cell a t :: rs) acc σ R w := by
  unfold resK
  rw [ha]
  obtain ⟨h1, h2⟩ := run_isAgg_yes hA w
  exact ⟨.agg l.toArray, by simp [loadVar, h1, run_sizeOf h2, run_loadCells' hl], hR⟩
end Go.Vc
namespace Go.Proofs.Ytcajkjbempagaaa
open Go.Vc Go.Zig Go.Key
set_option maxRecDepth 100000
structure EjO (w : World) (B : Nat) (x : Ej) : Prop where
  dO : OwnS w B x.dv x.e.d
  kO : OwnI w B 3 x.kv x.e.k
theorem EjO.is {w : World} {B : Nat} {x : Ej} (h : EjO w B x) : EjIs w x := ⟨Sl.of_own h.dO, Sl.of_own h.kO⟩
theorem EjO.later {w w' : World} {B : Nat} {x : Ej} (h : EjO w B x) (l : Later w w') : EjO w' B x := ⟨own_later h.dO l, own_later h.kO l⟩
theorem EjO.base {w : World} {B B' : Nat} {x : Ej} (h : EjO w B x) (hb : B' ≤ B) : EjO w B' x := ⟨own_base h.dO hb, own_base h.kO hb⟩
def ejZ : Ej := ⟨⟨false, 0, 0, [], []⟩, .slice none 0 0, .slice none 0 0⟩
theorem ej_one {w : World} {x : Ej} (h : EjIs w x) : ∀ u ∈ ejC x, u.oneCell' = true := by
  obtain ⟨od, cd, hd⟩ := Sl.slice h.dS
  obtain ⟨ok, ck, hk⟩ := Sl.slice h.kS
  intro u hu
  unfold ejC at hu
  rw [hd, hk] at hu
  simp only [List.mem_cons, List.not_mem_nil, or_false] at hu
  rcases hu with rfl | rfl | rfl | rfl | rfl <;> rfl
def DecR (w : World) (B : Nat) (r : Value) (nd nm : Nat) (l : List UInt8) : Prop := (decR nd nm l = none ∧ r = .tuple #[.agg (ejC ejZ).toArray, .int .i64 191]) ∨ ∃ x : Ej, decR nd nm l = some x.e ∧ r = .tuple #[.agg (ejC x).toArray, .int .i64 0] ∧ EjO w B x
theorem Rd.low {w : World} {k d k4 : Nat} {l : List UInt8} (h : Rd w k d l) (h4 : k4 < w.heap.size) (hne : k4 ≠ k) : ∃ d', d' < w.heap.size ∧ Rd w k d' l := by
  obtain ⟨o, n, c, h1, h2, h3, hdk, h5⟩ := h
  rcases inB_lt h2 with g | ⟨k0, hk0, g⟩
  · exact ⟨k4, h4, o, n, c, h1, h2, g _, hne, h5⟩
  · cases o with
    | none => exact ⟨k4, h4, none, n, c, h1, h2, trivial, hne, h5⟩
    | some a =>
      by_cases hn : n = 0
      · exact ⟨k4, h4, some a, n, c, h1, h2, .inl hn, hne, h5⟩
      · have e1 : a.block = k0 := g.resolve_left hn
        have e2 : a.block = d := h3.resolve_left hn
        exact ⟨d, by omega, some a, n, c, h1, h2, h3, hdk, h5⟩
theorem own_not {w w' : World} {base s n : Nat} {e : TypeId} {v : Value} {xs : List Value} {ks : List Nat} (h : w.ownsRow base e s v n xs) (g : Chg w w' ks) (hk : ∀ k ∈ v.ownBlock.toList, k ∉ ks) : w'.ownsRow base e s v n xs := by
  obtain ⟨h0, h⟩ := h
  refine ⟨h0, ?_⟩
  rcases h with h | ⟨b, cap, cur, hv, hb, hh, h3⟩
  · exact .inl h
  · refine .inr ⟨b, cap, cur, hv, hb, ?_, h3⟩
    rw [g.block b (Blk.lt hh) (hk b (by rw [hv]; simp [Value.ownBlock]))]; exact hh
theorem own_lt {w : World} {base s n : Nat} {e : TypeId} {v : Value} {xs : List Value} (h : w.ownsRow base e s v n xs) : ∀ k ∈ v.ownBlock.toList, k < w.heap.size := by
  obtain ⟨_, h⟩ := h
  rcases h with ⟨rfl, _⟩ | ⟨g, cap, cur, rfl, hg, hh, _⟩
  · simp [Value.ownBlock]
  · have := Blk.lt hh
    simpa [Value.ownBlock] using this
set_option maxHeartbeats 8000000 in
theorem decode_c (dv mv v : Value) (d m : List ByteArray) (l : List UInt8) (w : World) (h : ScIs w dv mv d m) (hd : d.length ≤ 1000) (hm : m.length ≤ 1000) (hv : Sl w v (l.map u8v)) (hl : l.length ≤ 140737488355000) :
    FnC Try.prog 15 #[scV dv mv, v] w fun r w' => DecR w' w.heap.size r d.length m.length l ∧ Later w w' := by
  unfold scV
  obtain ⟨od, cd, hdv⟩ := Sl.slice h.dS
  obtain ⟨om, cm, hmv⟩ := Sl.slice h.mS
  rw [List.length_map] at hdv hmv
  obtain ⟨ov, cv, rfl⟩ := Sl.slice hv
  rw [List.length_map] at hv ⊢
  refine enter15 _ _ ?_
  unfold B15
  obtain ⟨l1, s1, F⟩ := box2 w dv mv 24
  have eca : (Value.agg #[dv, mv]).cells = #[dv, mv] := rfl
  repeat' (first | (simp (disch := omega) only [push_cast, seval, eca, s1]) | refine iX ?_ ?_ <;> intros | refine aI (by omega) ?_ | fail)
  generalize w.alloc (.cells #[dv, mv] 24) = w1 at *
  have B2 := Blk.new w1 #[.bool false, .int .i64 0, .int .i64 0, .slice none 0 0, .slice none 0 0] 43
  have l2 := later_alloc w1 (.cells #[.bool false, .int .i64 0, .int .i64 0, .slice none 0 0, .slice none 0 0] 43)
  have s2 : (w1.alloc (.cells #[.bool false, .int .i64 0, .int .i64 0, .slice none 0 0, .slice none 0 0] 43)).heap.size = w1.heap.size + 1 := World.size_alloc w1 _
  generalize w1.alloc (.cells #[.bool false, .int .i64 0, .int .i64 0, .slice none 0 0, .slice none 0 0] 43) = w2 at *
  refine (zOpen_c _ l w2 (hv.later (l1.trans l2)) hl).mono ?_
  rintro _ w3 ⟨kr, d0, rfl, hR, hkr, _, l3⟩
  have s3 := l3.size
  obtain ⟨dd, hdd, hR⟩ := hR.low (k4 := w1.heap.size) (by omega) (by omega)
  have hkr3 : kr < w3.heap.size := by obtain ⟨_, _, _, _, _, _, _, h5⟩ := hR; exact h5
  have hnd : dd ≠ kr := by obtain ⟨_, _, _, _, _, _, h4, _⟩ := hR; exact h4
  have BT := Blk.new w3 #[pt kr, .bool true] 86
  have l4 := later_alloc w3 (.cells #[pt kr, .bool true] 86)
  have s4 : (w3.alloc (.cells #[pt kr, .bool true] 86)).heap.size = w3.heap.size + 1 := World.size_alloc w3 _
  have hR4 := hR.chg (Chg.of_later (ks := []) l4) (by simp) (by simp)
  unfold pt at BT l4 s4 hR4 ⊢
  have ect : (Value.agg #[.pointer (some ⟨kr, 0, none⟩), .bool true]).cells = #[.pointer (some ⟨kr, 0, none⟩), .bool true] := rfl
  repeat' (first | (simp (disch := omega) only [push_cast, seval, ect]) | refine iX ?_ ?_ <;> intros | refine aI (by omega) ?_ | fail)
  generalize w3.alloc (.cells #[.pointer (some ⟨kr, 0, none⟩), .bool true] 86) = w4 at *
  refine vStore_new rfl rfl (by intro u hu; simp [Value.cells] at hu; rcases hu with rfl | rfl | rfl <;> rfl) ?_
  have BE := Blk.new w4 #[.bool false, .int .i64 0, .int .i64 0, .slice none 0 0, .slice none 0 0] 43
  have l5 := later_alloc w4 (.cells #[.bool false, .int .i64 0, .int .i64 0, .slice none 0 0, .slice none 0 0] 43)
  have s5 : (w4.alloc (.cells #[.bool false, .int .i64 0, .int .i64 0, .slice none 0 0, .slice none 0 0] 43)).heap.size = w4.heap.size + 1 := World.size_alloc w4 _
  have hT : Tk w4 w3.heap.size kr dd (l, true) := ⟨BT, hR4, by omega, by omega⟩
  have hT := hT.later l5
  have B5 := (((B2.chg (Chg.of_later (ks := []) l3) (by simp)).chg (Chg.of_later (ks := []) l4) (by simp))).chg (Chg.of_later (ks := []) l5) (by simp)
  have lW : Later w1 (w4.alloc (.cells #[.bool false, .int .i64 0, .int .i64 0, .slice none 0 0, .slice none 0 0] 43)) := l2.trans (l3.trans (l4.trans l5))
  have hsz := l1.size
  generalize w4.alloc (.cells #[.bool false, .int .i64 0, .int .i64 0, .slice none 0 0, .slice none 0 0] 43) = w5 at *
  generalize hkt : w3.heap.size = kt at *
  generalize hke : w4.heap.size = ke at *
  rw [s1] at B5
  generalize hk4 : w.heap.size + 1 = k4 at *
  have o1 : k4 < kr := by omega
  have o2 : kr < kt := by omega
  have o3 : ke = kt + 1 := by omega
  have o4 : w.heap.size ≤ k4 := by omega
  have o5 : dd < kt := by omega
  have o6 : w5.heap.size = ke + 1 := by omega
  have hBw : w.heap.size ≤ ke + 1 := by omega
  clear l2 l3 l4 l5 B2 BT hR hR4 s2 s3 s4 s5 hkr hkr3 hdd hsz
  repeat' (first | (simp (disch := omega) only [push_cast, seval]) | refine iX ?_ ?_ <;> intros | refine aI (by omega) ?_ | refine dq ?_)
  refine (tint_c kt kr dd (l, true) 0 1 w5 hT).mono ?_
  rintro _ w6 ⟨rfl, hT6, g6⟩
  repeat' (first | (simp (disch := omega) only [push_cast, seval]) | refine iX ?_ ?_ <;> intros | refine aI (by omega) ?_ | refine dq ?_)
  refine (tint_c kt kr dd _ 0 1099511627776 w6 hT6).mono ?_
  rintro _ w7 ⟨rfl, hT7, g7⟩
  have g57 := g6.trans g7
  have E7 := BE.chg g57 (by simp; omega)
  have B7 := B5.chg g57 (by simp; omega)
  have lW7 : Later w1 w7 := Chg.later lW g57 (by intro k hk; simp at hk; omega)
  have s7 := g57.size
  have hdec0 : dec d.length m.length l = if (pI (l, true) 0 1).1 = 1 then (⟨true, (pI (pI (l, true) 0 1).2 0 1099511627776).1, 0, [], []⟩, (pI (pI (l, true) 0 1).2 0 1099511627776).2) else (⟨false, 0, (pI (pI (l, true) 0 1).2 0 1099511627776).1, (pTs d.length (pI (pI (l, true) 0 1).2 0 1099511627776).2).1, (pIs m.length (pTs d.length (pI (pI (l, true) 0 1).2 0 1099511627776).2).2).1⟩, (pIs m.length (pTs d.length (pI (pI (l, true) 0 1).2 0 1099511627776).2).2).2) := rfl
  generalize (pI (l, true) 0 1).1 = kind at *
  generalize hq : pI (pI (l, true) 0 1).2 0 1099511627776 = q at *
  clear g6 g7 g57 hT hT6 BE B5 lW hq
  by_cases hk : kind = 1
  · rw [if_pos hk] at hdec0
    have ek : decide (kind = 1) = true := decide_eq_true hk
    have c0 : w7.cell? ⟨ke, 0, none⟩ = some (.bool false) := E7.cell 0
    have z0 := E7.frozen 0
    have n8 := E7.set 0 (.bool true)
    have c1 : (w7.setCell ⟨ke, 0, none⟩ (.bool true)).cell? ⟨ke, 1, none⟩ = some (.int .i64 0) := n8.cell 1
    have z1 := n8.frozen 1
    have E8 : Blk ((w7.setCell ⟨ke, 0, none⟩ (.bool true)).setCell ⟨ke, 1, none⟩ (.int .i64 q.1)) ke (ejC ⟨⟨true, q.1, 0, [], []⟩, .slice none 0 0, .slice none 0 0⟩).toArray 43 := n8.set 1 (.int .i64 q.1)
    have c8 : Chg w7 ((w7.setCell ⟨ke, 0, none⟩ (.bool true)).setCell ⟨ke, 1, none⟩ (.int .i64 q.1)) [ke] := ((Chg.refl w7 [ke]).set (by simp) _).set (by simp) _
    have B8 := B7.chg c8 (by simp; omega)
    have hT8 := hT7.chg c8 (by simp; omega) (by simp; omega) (by simp; omega)
    have lW8 : Later w1 _ := Chg.later lW7 c8 (by intro k hk; rw [List.mem_singleton.1 hk]; omega)
    have O8 : EjO ((w7.setCell ⟨ke, 0, none⟩ (.bool true)).setCell ⟨ke, 1, none⟩ (.int .i64 q.1)) (ke + 1) ⟨⟨true, q.1, 0, [], []⟩, .slice none 0 0, .slice none 0 0⟩ := ⟨own_nil _ _ _ _, own_nil _ _ _ _⟩
    repeat' (first | (simp (disch := omega) only [push_cast, seval, ek, c0, z0, c1, z1, addr_add_eq, Nat.zero_add]) | refine iX ?_ ?_ <;> intros | refine aI (by omega) ?_ | refine dq ?_)
    generalize (w7.setCell ⟨ke, 0, none⟩ (.bool true)).setCell ⟨ke, 1, none⟩ (.int .i64 q.1) = w8 at *
    generalize hx8 : (⟨⟨true, q.1, 0, [], []⟩, .slice none 0 0, .slice none 0 0⟩ : Ej) = x8 at *
    have hdec : dec d.length m.length l = (x8.e, q.2) := by rw [hdec0, ← hx8]
    have hx8d : x8.e.d.length ≤ 1000000 := by rw [← hx8]; simp
    have hx8k : x8.e.k.length ≤ 1000000 := by rw [← hx8]; simp
    generalize q.2 = s8 at *
    clear hdec0 E7 B7 hT7 lW7 n8 c0 c1 z0 z1 c8
    have tc0 : w8.cell? ⟨kt, 0, none⟩ = some (.pointer (some ⟨kr, 0, none⟩)) := hT8.1.cell 0
    have tc1 : w8.cell? ⟨kt, 1, none⟩ = some (.bool s8.2) := hT8.1.cell 1
    obtain ⟨f0, f1, f2⟩ := F w8 lW8
    cases hs2 : s8.2 with
    | false =>
      rw [hs2] at tc1
      repeat' (first | (simp (disch := omega) only [push_cast, seval, tc0, tc1, addr_add_eq, Nat.zero_add]) | refine iX ?_ ?_ <;> intros | refine aI (by omega) ?_ | refine dq ?_)
      refine vStore_blk (l := [.bool false, .int .i64 0, .int .i64 0, .slice none 0 0, .slice none 0 0]) (xs := ejC ejZ) B8 rfl rfl (ej_one (w := w) ⟨Sl.nil _, Sl.nil _⟩) ?_
      intro w20 B20 c20
      repeat' (first | (simp (disch := omega) only [push_cast, seval]) | refine iX ?_ ?_ <;> intros | refine aI (by omega) ?_ | refine dq ?_)
      refine resK_cells (s := 5) (by simp (disch := omega) only [push_cast, seval]) (by rw [Try.underlying43]; exact sz43) (Blk.cellsAt (l := ejC ejZ) B20) ?_
      repeat' (first | (simp (disch := omega) only [push_cast, seval]) | refine iX ?_ ?_ <;> intros | refine aI (by omega) ?_ | refine dq ?_)
      exact ⟨.inl ⟨by unfold decR; rw [hdec, if_neg (by dsimp only; rw [hs2]; simp)], rfl⟩, l1.trans (Chg.later lW8 c20 (by intro k hk; rw [List.mem_singleton.1 hk]; omega))⟩

    | true =>
    rw [hs2] at tc1
    repeat' (first | (simp (disch := omega) only [push_cast, seval, tc0, tc1, addr_add_eq, Nat.zero_add]) | refine iX ?_ ?_ <;> intros | refine aI (by omega) ?_ | refine dq ?_)
    refine (zRLeft_c kr dd s8.1 w8 hT8.2.1).mono ?_
    rintro _ w0 ⟨rfl, h0⟩
    obtain rfl := h0.symm
    by_cases hlen : s8.1.length = 0
    case neg =>
      have e1 : decide ((0 : Int) < (s8.1.length : Int)) = true := decide_eq_true (by omega)
      repeat' (first | (simp (disch := omega) only [push_cast, seval, e1]) | refine iX ?_ ?_ <;> intros | refine aI (by omega) ?_ | refine dq ?_)
      refine vStore_blk (l := [.bool false, .int .i64 0, .int .i64 0, .slice none 0 0, .slice none 0 0]) (xs := ejC ejZ) B8 rfl rfl (ej_one (w := w) ⟨Sl.nil _, Sl.nil _⟩) ?_
      intro w20 B20 c20
      repeat' (first | (simp (disch := omega) only [push_cast, seval]) | refine iX ?_ ?_ <;> intros | refine aI (by omega) ?_ | refine dq ?_)
      refine resK_cells (s := 5) (by simp (disch := omega) only [push_cast, seval]) (by rw [Try.underlying43]; exact sz43) (Blk.cellsAt (l := ejC ejZ) B20) ?_
      repeat' (first | (simp (disch := omega) only [push_cast, seval]) | refine iX ?_ ?_ <;> intros | refine aI (by omega) ?_ | refine dq ?_)
      exact ⟨.inl ⟨by unfold decR; rw [hdec, if_neg (by dsimp only; intro hh; exact hlen (by rw [hh.2.1]; rfl))], rfl⟩, l1.trans (Chg.later lW8 c20 (by intro k hk; rw [List.mem_singleton.1 hk]; omega))⟩

    have hnil : s8.1 = [] := List.length_eq_zero_iff.1 hlen
    have e1 : decide ((0 : Int) < (s8.1.length : Int)) = false := decide_eq_false (by omega)
    have f5 : cellsAt w8 ⟨ke, 0, none⟩ 5 = some (ejC x8) := Blk.cellsAt (l := ejC x8) E8
    repeat' (first | (simp (disch := omega) only [push_cast, seval, e1, f2, f5]) | refine iX ?_ ?_ <;> intros | refine aI (by omega) ?_ | refine dq ?_)
    refine (right_c dv mv d m x8 w8 (h.later (l1.trans lW8)) O8.is hx8d hx8k).mono ?_
    rintro _ w9 ⟨rfl, l9⟩
    have B9 := B8.chg (Chg.of_later (ks := []) l9) (by simp)
    cases hr : rgE d.length m.length x8.e with
    | false =>
      repeat' (first | (simp (disch := omega) only [push_cast, seval]) | refine iX ?_ ?_ <;> intros | refine aI (by omega) ?_ | refine dq ?_)
      refine vStore_blk (l := [.bool false, .int .i64 0, .int .i64 0, .slice none 0 0, .slice none 0 0]) (xs := ejC ejZ) B9 rfl rfl (ej_one (w := w) ⟨Sl.nil _, Sl.nil _⟩) ?_
      intro w20 B20 c20
      repeat' (first | (simp (disch := omega) only [push_cast, seval]) | refine iX ?_ ?_ <;> intros | refine aI (by omega) ?_ | refine dq ?_)
      refine resK_cells (s := 5) (by simp (disch := omega) only [push_cast, seval]) (by rw [Try.underlying43]; exact sz43) (Blk.cellsAt (l := ejC ejZ) B20) ?_
      repeat' (first | (simp (disch := omega) only [push_cast, seval]) | refine iX ?_ ?_ <;> intros | refine aI (by omega) ?_ | refine dq ?_)
      exact ⟨.inl ⟨by unfold decR; rw [hdec, if_neg (by dsimp only; rw [hr]; simp)], rfl⟩, l1.trans (Chg.later (lW8.trans l9) c20 (by intro k hk; rw [List.mem_singleton.1 hk]; omega))⟩

    | true =>
      have f6 : cellsAt w9 ⟨ke, 0, none⟩ 5 = some (ejC x8) := Blk.cellsAt (l := ejC x8) (E8.chg (Chg.of_later (ks := []) l9) (by simp))
      have O9 := O8.later l9
      repeat' (first | (simp (disch := omega) only [push_cast, seval, f6]) | refine iX ?_ ?_ <;> intros | refine aI (by omega) ?_ | refine dq ?_)
      refine vStore_blk (l := [.bool false, .int .i64 0, .int .i64 0, .slice none 0 0, .slice none 0 0]) (xs := ejC x8) B9 rfl rfl (ej_one O9.is) ?_
      intro w20 B20 c20
      repeat' (first | (simp (disch := omega) only [push_cast, seval]) | refine iX ?_ ?_ <;> intros | refine aI (by omega) ?_ | refine dq ?_)
      refine resK_cells (s := 5) (by simp (disch := omega) only [push_cast, seval]) (by rw [Try.underlying43]; exact sz43) (Blk.cellsAt (l := ejC x8) B20) ?_
      repeat' (first | (simp (disch := omega) only [push_cast, seval]) | refine iX ?_ ?_ <;> intros | refine aI (by omega) ?_ | refine dq ?_)
      refine ⟨.inr ⟨x8, by unfold decR; rw [hdec, if_pos ⟨hs2, hnil, hr⟩], rfl, ?_⟩, l1.trans (Chg.later (lW8.trans l9) c20 (by intro k hk; rw [List.mem_singleton.1 hk]; omega))⟩
      exact EjO.base ⟨own_chg O9.dO c20 (by intro k hk; rw [List.mem_singleton.1 hk]; omega), own_chg O9.kO c20 (by intro k hk; rw [List.mem_singleton.1 hk]; omega)⟩ hBw
  · rw [if_neg hk] at hdec0
    have ek : decide (kind = 1) = false := decide_eq_false hk
    have c2 : w7.cell? ⟨ke, 2, none⟩ = some (.int .i64 0) := E7.cell 2
    have z2 := E7.frozen 2
    have E8 : Blk (w7.setCell ⟨ke, 2, none⟩ (.int .i64 q.1)) ke #[.bool false, .int .i64 0, .int .i64 q.1, .slice none 0 0, .slice none 0 0] 43 := E7.set 2 (.int .i64 q.1)
    have c8 : Chg w7 (w7.setCell ⟨ke, 2, none⟩ (.int .i64 q.1)) [ke] := (Chg.refl w7 [ke]).set (by simp) _
    have B8 := B7.chg c8 (by simp; omega)
    have hT8 := hT7.chg c8 (by simp; omega) (by simp; omega) (by simp; omega)
    have lW8 : Later w1 (w7.setCell ⟨ke, 2, none⟩ (.int .i64 q.1)) := Chg.later lW7 c8 (by intro k hk; rw [List.mem_singleton.1 hk]; omega)
    have s8' := c8.size
    obtain ⟨f0, f1, f2⟩ := F _ lW8
    rw [hdv] at f0
    repeat' (first | (simp (disch := omega) only [push_cast, seval, ek, c2, z2, f0, addr_add_eq, Nat.zero_add]) | refine iX ?_ ?_ <;> intros | refine aI (by omega) ?_ | refine dq ?_)
    generalize w7.setCell ⟨ke, 2, none⟩ (.int .i64 q.1) = w8 at *
    clear E7 B7 hT7 lW7 c2 z2 c8
    have hRc : ∀ (a b : World) (ks : List Nat), (Later w1 a ∧ Blk a k4 #[.bool false, .int .i64 0, .int .i64 0, .slice none 0 0, .slice none 0 0] 43) → Chg a b ks → (∀ k ∈ ks, k = kt ∨ k = kr ∨ k = ke ∨ ke + 1 ≤ k) → (Later w1 b ∧ Blk b k4 #[.bool false, .int .i64 0, .int .i64 0, .slice none 0 0, .slice none 0 0] 43) := fun a b ks ⟨r1, r2⟩ g hks =>
      ⟨Chg.later r1 g (fun k hk => by have := hks k hk; omega), r2.chg g (fun hm => by have := hks _ hm; omega)⟩
    refine vc_loop W15_0 (fun i : Nat => [(30, .int .i64 (i : Int))])
      (fun i w' => i ≤ d.length ∧ (Later w1 w' ∧ Blk w' k4 #[.bool false, .int .i64 0, .int .i64 0, .slice none 0 0, .slice none 0 0] 43) ∧ Tk w' kt kr dd (pTs i q.2).2 ∧ ke + 1 ≤ w'.heap.size ∧ ∃ v, Blk w' ke #[.bool false, .int .i64 0, .int .i64 q.1, v, .slice none 0 0] 43 ∧ OwnS w' (ke + 1) v (pTs i q.2).1) (fun i => d.length - i) 0 (by decide) ?_ ?_ ?_
    · simp (disch := omega) only [push_cast, seval]
    · exact ⟨by omega, ⟨lW8, B8⟩, hT8, by omega, _, E8, own_nil _ _ _ _⟩
    rintro i uu w9 ⟨hi, hR9, hT9, hB9, v9, E9, O9⟩
    by_cases hlt : i < d.length
    · repeat' (first | (simp (disch := omega) only [push_cast, seval]) | refine iX ?_ ?_ <;> intros | refine aI (by omega) ?_ | refine dq ?_)
      refine Or.inr (jreg1_c (vi := .int .i64 (i : Int)) (by first | rfl | (simp (disch := omega) only [push_cast, seval]; rfl)) (by first | rfl | (simp (disch := omega) only [push_cast, seval]; rfl)) (by first | rfl | (simp (disch := omega) only [push_cast, seval]; rfl)) hR9 hT9 E9 O9 (by omega) hRc (by omega) hB9 (by rw [pTs_len]; omega) ?_)
      intro σ1 w10 v' q6 q7 qi hR10 hT10 E10 O10 hB10
      repeat' (first | (simp (disch := omega) only [push_cast, seval, qi]) | refine iX ?_ ?_ <;> intros | refine aI (by omega) ?_ | refine dq ?_)
      exact ⟨rfl, i + 1, by simp (disch := omega) only [push_cast, seval, qi], ⟨by omega, hR10, hT10, hB10, v', E10, O10⟩, by dsimp only; omega⟩
    have hie : i = d.length := by omega
    subst hie
    obtain ⟨f0, f1, f2⟩ := F w9 hR9.1
    rw [hmv] at f1
    repeat' (first | (simp (disch := omega) only [push_cast, seval, f1, addr_add_eq, Nat.zero_add]) | refine iX ?_ ?_ <;> intros | refine aI (by omega) ?_ | refine dq ?_)
    have hge := own_ge O9
    have hlt9 := own_lt O9
    have hRc2 : ∀ (a b : World) (ks : List Nat), ((Later w1 a ∧ Blk a k4 #[.bool false, .int .i64 0, .int .i64 0, .slice none 0 0, .slice none 0 0] 43) ∧ OwnS a (ke + 1) v9 (pTs d.length q.2).1) → Chg a b ks → (∀ k ∈ ks, k = kt ∨ k = kr ∨ k = ke ∨ w9.heap.size ≤ k) → ((Later w1 b ∧ Blk b k4 #[.bool false, .int .i64 0, .int .i64 0, .slice none 0 0, .slice none 0 0] 43) ∧ OwnS b (ke + 1) v9 (pTs d.length q.2).1) := fun a b ks ⟨r1, r2⟩ g hks =>
      ⟨hRc a b ks r1 g (fun k hk => by have := hks k hk; omega), own_not r2 g (fun k hk hm => by have h1 := hks k hm; have h2 := hge k hk; have h3 := hlt9 k hk; omega)⟩
    refine vc_loop W15_1 (fun i : Nat => [(45, .int .i64 (i : Int))])
      (fun i w' => i ≤ m.length ∧ ((Later w1 w' ∧ Blk w' k4 #[.bool false, .int .i64 0, .int .i64 0, .slice none 0 0, .slice none 0 0] 43) ∧ OwnS w' (ke + 1) v9 (pTs d.length q.2).1) ∧ Tk w' kt kr dd (pIs i (pTs d.length q.2).2).2 ∧ w9.heap.size ≤ w'.heap.size ∧ ∃ v, Blk w' ke #[.bool false, .int .i64 0, .int .i64 q.1, v9, v] 43 ∧ OwnI w' w9.heap.size 3 v (pIs i (pTs d.length q.2).2).1) (fun i => m.length - i) 0 (by decide) ?_ ?_ ?_
    · simp (disch := omega) only [push_cast, seval]
    · exact ⟨by omega, ⟨hR9, O9⟩, hT9, Nat.le_refl _, _, E9, own_nil _ _ _ _⟩
    rintro j uu2 w11 ⟨hj, hR11, hT11, hB11, v11, E11, O11⟩
    by_cases hlt : j < m.length
    · repeat' (first | (simp (disch := omega) only [push_cast, seval]) | refine iX ?_ ?_ <;> intros | refine aI (by omega) ?_ | refine dq ?_)
      refine Or.inr (jreg2_c (vi := .int .i64 (j : Int)) (by first | rfl | (simp (disch := omega) only [push_cast, seval]; rfl)) (by first | rfl | (simp (disch := omega) only [push_cast, seval]; rfl)) (by first | rfl | (simp (disch := omega) only [push_cast, seval]; rfl)) hR11 hT11 E11 O11 (by omega) hRc2 (by omega) hB11 (by rw [pIs_len]; omega) ?_)
      intro σ1 w12 v' q6 q7 qi hR12 hT12 E12 O12 hB12
      repeat' (first | (simp (disch := omega) only [push_cast, seval, qi]) | refine iX ?_ ?_ <;> intros | refine aI (by omega) ?_ | refine dq ?_)
      exact ⟨rfl, j + 1, by simp (disch := omega) only [push_cast, seval, qi], ⟨by omega, hR12, hT12, hB12, v', E12, O12⟩, by dsimp only; omega⟩
    have hje : j = m.length := by omega
    subst hje
    obtain ⟨⟨lW8, B8⟩, Od⟩ := hR11
    have O8 : EjO w11 (ke + 1) ⟨⟨false, 0, q.1, (pTs d.length q.2).1, (pIs m.length (pTs d.length q.2).2).1⟩, v9, v11⟩ := ⟨Od, own_base O11 hB9⟩
    have E8 : Blk w11 ke (ejC ⟨⟨false, 0, q.1, (pTs d.length q.2).1, (pIs m.length (pTs d.length q.2).2).1⟩, v9, v11⟩).toArray 43 := E11
    have ld := pTs_len d.length q.2
    have lm := pIs_len m.length (pTs d.length q.2).2
    generalize hx8 : (⟨⟨false, 0, q.1, (pTs d.length q.2).1, (pIs m.length (pTs d.length q.2).2).1⟩, v9, v11⟩ : Ej) = x8 at *
    have hdec : dec d.length m.length l = (x8.e, (pIs m.length (pTs d.length q.2).2).2) := by rw [hdec0, ← hx8]
    have hx8d : x8.e.d.length ≤ 1000000 := by rw [← hx8]; dsimp only; omega
    have hx8k : x8.e.k.length ≤ 1000000 := by rw [← hx8]; dsimp only; omega
    have hT8 := hT11
    generalize (pIs m.length (pTs d.length q.2).2).2 = s8 at *
    clear hdec0 E9 O9 E11 O11 Od hT9 hT11 hR9
    repeat' (first | (simp (disch := omega) only [push_cast, seval]) | refine iX ?_ ?_ <;> intros | refine aI (by omega) ?_ | refine dq ?_)
    have tc0 : w11.cell? ⟨kt, 0, none⟩ = some (.pointer (some ⟨kr, 0, none⟩)) := hT8.1.cell 0
    have tc1 : w11.cell? ⟨kt, 1, none⟩ = some (.bool s8.2) := hT8.1.cell 1
    obtain ⟨f0, f1, f2⟩ := F w11 lW8
    cases hs2 : s8.2 with
    | false =>
      rw [hs2] at tc1
      repeat' (first | (simp (disch := omega) only [push_cast, seval, tc0, tc1, addr_add_eq, Nat.zero_add]) | refine iX ?_ ?_ <;> intros | refine aI (by omega) ?_ | refine dq ?_)
      refine vStore_blk (l := [.bool false, .int .i64 0, .int .i64 0, .slice none 0 0, .slice none 0 0]) (xs := ejC ejZ) B8 rfl rfl (ej_one (w := w) ⟨Sl.nil _, Sl.nil _⟩) ?_
      intro w20 B20 c20
      repeat' (first | (simp (disch := omega) only [push_cast, seval]) | refine iX ?_ ?_ <;> intros | refine aI (by omega) ?_ | refine dq ?_)
      refine resK_cells (s := 5) (by simp (disch := omega) only [push_cast, seval]) (by rw [Try.underlying43]; exact sz43) (Blk.cellsAt (l := ejC ejZ) B20) ?_
      repeat' (first | (simp (disch := omega) only [push_cast, seval]) | refine iX ?_ ?_ <;> intros | refine aI (by omega) ?_ | refine dq ?_)
      exact ⟨.inl ⟨by unfold decR; rw [hdec, if_neg (by dsimp only; rw [hs2]; simp)], rfl⟩, l1.trans (Chg.later lW8 c20 (by intro k hk; rw [List.mem_singleton.1 hk]; omega))⟩

    | true =>
    rw [hs2] at tc1
    repeat' (first | (simp (disch := omega) only [push_cast, seval, tc0, tc1, addr_add_eq, Nat.zero_add]) | refine iX ?_ ?_ <;> intros | refine aI (by omega) ?_ | refine dq ?_)
    refine (zRLeft_c kr dd s8.1 w11 hT8.2.1).mono ?_
    rintro _ w0 ⟨rfl, h0⟩
    obtain rfl := h0.symm
    by_cases hlen : s8.1.length = 0
    case neg =>
      have e1 : decide ((0 : Int) < (s8.1.length : Int)) = true := decide_eq_true (by omega)
      repeat' (first | (simp (disch := omega) only [push_cast, seval, e1]) | refine iX ?_ ?_ <;> intros | refine aI (by omega) ?_ | refine dq ?_)
      refine vStore_blk (l := [.bool false, .int .i64 0, .int .i64 0, .slice none 0 0, .slice none 0 0]) (xs := ejC ejZ) B8 rfl rfl (ej_one (w := w) ⟨Sl.nil _, Sl.nil _⟩) ?_
      intro w20 B20 c20
      repeat' (first | (simp (disch := omega) only [push_cast, seval]) | refine iX ?_ ?_ <;> intros | refine aI (by omega) ?_ | refine dq ?_)
      refine resK_cells (s := 5) (by simp (disch := omega) only [push_cast, seval]) (by rw [Try.underlying43]; exact sz43) (Blk.cellsAt (l := ejC ejZ) B20) ?_
      repeat' (first | (simp (disch := omega) only [push_cast, seval]) | refine iX ?_ ?_ <;> intros | refine aI (by omega) ?_ | refine dq ?_)
      exact ⟨.inl ⟨by unfold decR; rw [hdec, if_neg (by dsimp only; intro hh; exact hlen (by rw [hh.2.1]; rfl))], rfl⟩, l1.trans (Chg.later lW8 c20 (by intro k hk; rw [List.mem_singleton.1 hk]; omega))⟩

    have hnil : s8.1 = [] := List.length_eq_zero_iff.1 hlen
    have e1 : decide ((0 : Int) < (s8.1.length : Int)) = false := decide_eq_false (by omega)
    have f5 : cellsAt w11 ⟨ke, 0, none⟩ 5 = some (ejC x8) := Blk.cellsAt (l := ejC x8) E8
    repeat' (first | (simp (disch := omega) only [push_cast, seval, e1, f2, f5]) | refine iX ?_ ?_ <;> intros | refine aI (by omega) ?_ | refine dq ?_)
    refine (right_c dv mv d m x8 w11 (h.later (l1.trans lW8)) O8.is hx8d hx8k).mono ?_
    rintro _ w13 ⟨rfl, l9⟩
    have B9 := B8.chg (Chg.of_later (ks := []) l9) (by simp)
    cases hr : rgE d.length m.length x8.e with
    | false =>
      repeat' (first | (simp (disch := omega) only [push_cast, seval]) | refine iX ?_ ?_ <;> intros | refine aI (by omega) ?_ | refine dq ?_)
      refine vStore_blk (l := [.bool false, .int .i64 0, .int .i64 0, .slice none 0 0, .slice none 0 0]) (xs := ejC ejZ) B9 rfl rfl (ej_one (w := w) ⟨Sl.nil _, Sl.nil _⟩) ?_
      intro w20 B20 c20
      repeat' (first | (simp (disch := omega) only [push_cast, seval]) | refine iX ?_ ?_ <;> intros | refine aI (by omega) ?_ | refine dq ?_)
      refine resK_cells (s := 5) (by simp (disch := omega) only [push_cast, seval]) (by rw [Try.underlying43]; exact sz43) (Blk.cellsAt (l := ejC ejZ) B20) ?_
      repeat' (first | (simp (disch := omega) only [push_cast, seval]) | refine iX ?_ ?_ <;> intros | refine aI (by omega) ?_ | refine dq ?_)
      exact ⟨.inl ⟨by unfold decR; rw [hdec, if_neg (by dsimp only; rw [hr]; simp)], rfl⟩, l1.trans (Chg.later (lW8.trans l9) c20 (by intro k hk; rw [List.mem_singleton.1 hk]; omega))⟩

    | true =>
      have f6 : cellsAt w13 ⟨ke, 0, none⟩ 5 = some (ejC x8) := Blk.cellsAt (l := ejC x8) (E8.chg (Chg.of_later (ks := []) l9) (by simp))
      have O9 := O8.later l9
      repeat' (first | (simp (disch := omega) only [push_cast, seval, f6]) | refine iX ?_ ?_ <;> intros | refine aI (by omega) ?_ | refine dq ?_)
      refine vStore_blk (l := [.bool false, .int .i64 0, .int .i64 0, .slice none 0 0, .slice none 0 0]) (xs := ejC x8) B9 rfl rfl (ej_one O9.is) ?_
      intro w20 B20 c20
      repeat' (first | (simp (disch := omega) only [push_cast, seval]) | refine iX ?_ ?_ <;> intros | refine aI (by omega) ?_ | refine dq ?_)
      refine resK_cells (s := 5) (by simp (disch := omega) only [push_cast, seval]) (by rw [Try.underlying43]; exact sz43) (Blk.cellsAt (l := ejC x8) B20) ?_
      repeat' (first | (simp (disch := omega) only [push_cast, seval]) | refine iX ?_ ?_ <;> intros | refine aI (by omega) ?_ | refine dq ?_)
      refine ⟨.inr ⟨x8, by unfold decR; rw [hdec, if_pos ⟨hs2, hnil, hr⟩], rfl, ?_⟩, l1.trans (Chg.later (lW8.trans l9) c20 (by intro k hk; rw [List.mem_singleton.1 hk]; omega))⟩
      exact EjO.base ⟨own_chg O9.dO c20 (by intro k hk; rw [List.mem_singleton.1 hk]; omega), own_chg O9.kO c20 (by intro k hk; rw [List.mem_singleton.1 hk]; omega)⟩ hBw
end Go.Proofs.Ytcajkjbempagaaa
end
section
set_option linter.unusedSimpArgs false
namespace Go.Proofs.Ytcajkjbempagaaa
open Go.Vc Go.Zig Go.Key
set_option maxRecDepth 100000
theorem rT_sz (l : List UInt8) : (rT l 24).1.size ≤ 24 := by
  by_cases h : (rT l 24).2.1 = 0
  · exact (rT_ok h).1
  · unfold rT at h ⊢
    split
    · exact Nat.zero_le _
    · rename_i u n hn
      rw [hn] at h
      dsimp only at h
      split
      · exact Nat.zero_le _
      · rename_i hc
        rw [if_neg hc] at h
        exact absurd rfl h
theorem pTs_sz : ∀ (n : Nat) (s : St), ∀ x ∈ (pTs n s).1, x.size ≤ 24
  | 0, _, x, hx => by cases hx
  | n + 1, s, x, hx => by
    have hx : x ∈ (pTs n s).1 ++ [(pT (pTs n s).2).1] := hx
    rcases List.mem_append.1 hx with hx | hx
    · exact pTs_sz n s x hx
    · rw [List.mem_singleton.1 hx]; exact rT_sz _
set_option maxHeartbeats 8000000 in
theorem ddecode_c (dv mv v : Value) (d m : List ByteArray) (l : List UInt8) (w : World) (h : ScIs w dv mv d m) (hd : d.length ≤ 1000) (hm : m.length ≤ 1000) (hv : Sl w v (l.map u8v)) (hl : l.length ≤ 140737488355000) :
    FnC Try.prog 32 #[scV dv mv, v] w fun r w' => DecR w' w.heap.size r d.length m.length l ∧ Later w w' := by
  unfold scV
  obtain ⟨od, cd, hdv⟩ := Sl.slice h.dS
  obtain ⟨om, cm, hmv⟩ := Sl.slice h.mS
  rw [List.length_map] at hdv hmv
  obtain ⟨ov, cv, rfl⟩ := Sl.slice hv
  rw [List.length_map] at hv ⊢
  refine enter32 _ _ ?_
  unfold B32
  obtain ⟨l1, s1, F⟩ := box2 w dv mv 24
  have eca : (Value.agg #[dv, mv]).cells = #[dv, mv] := rfl
  repeat' (first | (simp (disch := omega) only [push_cast, seval, eca, s1]) | refine iX ?_ ?_ <;> intros | refine aI (by omega) ?_ | fail)
  generalize w.alloc (.cells #[dv, mv] 24) = w1 at *
  have B2 := Blk.new w1 #[.bool false, .int .i64 0, .int .i64 0, .slice none 0 0, .slice none 0 0] 43
  have l2 := later_alloc w1 (.cells #[.bool false, .int .i64 0, .int .i64 0, .slice none 0 0, .slice none 0 0] 43)
  have s2 : (w1.alloc (.cells #[.bool false, .int .i64 0, .int .i64 0, .slice none 0 0, .slice none 0 0] 43)).heap.size = w1.heap.size + 1 := World.size_alloc w1 _
  generalize w1.alloc (.cells #[.bool false, .int .i64 0, .int .i64 0, .slice none 0 0, .slice none 0 0] 43) = w2 at *
  have BT := Blk.new w2 #[.slice ov l.length cv, .int .i64 0, .bool false] 105
  have l3 := later_alloc w2 (.cells #[.slice ov l.length cv, .int .i64 0, .bool false] 105)
  have s4 : (w2.alloc (.cells #[.slice ov l.length cv, .int .i64 0, .bool false] 105)).heap.size = w2.heap.size + 1 := World.size_alloc w2 _
  have ecr : (Value.agg #[.slice ov l.length cv, .int .i64 0, .bool false]).cells = #[.slice ov l.length cv, .int .i64 0, .bool false] := rfl
  obtain ⟨dd, hdd, hin⟩ : ∃ dd, dd < w2.heap.size ∧ inB dd (.slice ov l.length cv) := by
    rcases inB_lt hv with g | ⟨k0, hk0, g⟩
    · exact ⟨w.heap.size, by omega, g _⟩
    · exact ⟨k0, by omega, g⟩
  repeat' (first | (simp (disch := omega) only [push_cast, seval, ecr]) | refine iX ?_ ?_ <;> intros | refine aI (by omega) ?_ | fail)
  generalize w2.alloc (.cells #[.slice ov l.length cv, .int .i64 0, .bool false] 105) = w4 at *
  refine vStore_new rfl rfl (by intro u hu; simp [Value.cells] at hu; rcases hu with rfl | rfl | rfl <;> rfl) ?_
  have BE := Blk.new w4 #[.bool false, .int .i64 0, .int .i64 0, .slice none 0 0, .slice none 0 0] 43
  have l5 := later_alloc w4 (.cells #[.bool false, .int .i64 0, .int .i64 0, .slice none 0 0, .slice none 0 0] 43)
  have s5 : (w4.alloc (.cells #[.bool false, .int .i64 0, .int .i64 0, .slice none 0 0, .slice none 0 0] 43)).heap.size = w4.heap.size + 1 := World.size_alloc w4 _
  have hT : RmS w4 w2.heap.size dd l (l, true) := ⟨0, ⟨_, _, _, BT, hv.later (l1.trans (l2.trans l3)), hin, by omega, by omega⟩, by omega, rfl⟩
  have hT := hT.chg (Chg.of_later (ks := []) l5) (by simp) (by simp)
  have B5 := (B2.chg (Chg.of_later (ks := []) l3) (by simp)).chg (Chg.of_later (ks := []) l5) (by simp)
  have lW : Later w1 (w4.alloc (.cells #[.bool false, .int .i64 0, .int .i64 0, .slice none 0 0, .slice none 0 0] 43)) := l2.trans (l3.trans l5)
  have hsz := l1.size
  generalize w4.alloc (.cells #[.bool false, .int .i64 0, .int .i64 0, .slice none 0 0, .slice none 0 0] 43) = w5 at *
  generalize hkt : w2.heap.size = kt at *
  generalize hke : w4.heap.size = ke at *
  rw [s1] at B5
  generalize hk4 : w.heap.size + 1 = k4 at *
  have o2 : k4 < kt := by omega
  have o3 : ke = kt + 1 := by omega
  have o4 : w.heap.size ≤ k4 := by omega
  have o5 : dd < kt := by omega
  have o6 : w5.heap.size = ke + 1 := by omega
  have hBw : w.heap.size ≤ ke + 1 := by omega
  clear l2 l3 l5 B2 BT s2 s4 s5 hdd hsz hin
  repeat' (first | (simp (disch := omega) only [push_cast, seval]) | refine iX ?_ ?_ <;> intros | refine aI (by omega) ?_ | refine dq ?_)
  refine (rN_c kt dd l (l, true) 0 1 w5 hT hl).mono ?_
  rintro _ w6 ⟨rfl, hT6, g6⟩
  repeat' (first | (simp (disch := omega) only [push_cast, seval]) | refine iX ?_ ?_ <;> intros | refine aI (by omega) ?_ | refine dq ?_)
  refine (rN_c kt dd l _ 0 1099511627776 w6 hT6 hl).mono ?_
  rintro _ w7 ⟨rfl, hT7, g7⟩
  have g57 := g6.trans g7
  have E7 := BE.chg g57 (by simp; omega)
  have B7 := B5.chg g57 (by simp; omega)
  have lW7 : Later w1 w7 := Chg.later lW g57 (by intro k hk; simp at hk; omega)
  have s7 := g57.size
  have hdec0 : dec d.length m.length l = if (pI (l, true) 0 1).1 = 1 then (⟨true, (pI (pI (l, true) 0 1).2 0 1099511627776).1, 0, [], []⟩, (pI (pI (l, true) 0 1).2 0 1099511627776).2) else (⟨false, 0, (pI (pI (l, true) 0 1).2 0 1099511627776).1, (pTs d.length (pI (pI (l, true) 0 1).2 0 1099511627776).2).1, (pIs m.length (pTs d.length (pI (pI (l, true) 0 1).2 0 1099511627776).2).2).1⟩, (pIs m.length (pTs d.length (pI (pI (l, true) 0 1).2 0 1099511627776).2).2).2) := rfl
  generalize (pI (l, true) 0 1).1 = kind at *
  generalize hq : pI (pI (l, true) 0 1).2 0 1099511627776 = q at *
  clear g6 g7 g57 hT hT6 BE B5 lW hq
  by_cases hk : kind = 1
  · rw [if_pos hk] at hdec0
    have ek : decide (kind = 1) = true := decide_eq_true hk
    have c0 : w7.cell? ⟨ke, 0, none⟩ = some (.bool false) := E7.cell 0
    have z0 := E7.frozen 0
    have n8 := E7.set 0 (.bool true)
    have c1 : (w7.setCell ⟨ke, 0, none⟩ (.bool true)).cell? ⟨ke, 1, none⟩ = some (.int .i64 0) := n8.cell 1
    have z1 := n8.frozen 1
    have E8 : Blk ((w7.setCell ⟨ke, 0, none⟩ (.bool true)).setCell ⟨ke, 1, none⟩ (.int .i64 q.1)) ke (ejC ⟨⟨true, q.1, 0, [], []⟩, .slice none 0 0, .slice none 0 0⟩).toArray 43 := n8.set 1 (.int .i64 q.1)
    have c8 : Chg w7 ((w7.setCell ⟨ke, 0, none⟩ (.bool true)).setCell ⟨ke, 1, none⟩ (.int .i64 q.1)) [ke] := ((Chg.refl w7 [ke]).set (by simp) _).set (by simp) _
    have B8 := B7.chg c8 (by simp; omega)
    have hT8 := hT7.chg c8 (by simp; omega) (by simp; omega)
    have lW8 : Later w1 _ := Chg.later lW7 c8 (by intro k hk; rw [List.mem_singleton.1 hk]; omega)
    have O8 : EjO ((w7.setCell ⟨ke, 0, none⟩ (.bool true)).setCell ⟨ke, 1, none⟩ (.int .i64 q.1)) (ke + 1) ⟨⟨true, q.1, 0, [], []⟩, .slice none 0 0, .slice none 0 0⟩ := ⟨own_nil _ _ _ _, own_nil _ _ _ _⟩
    repeat' (first | (simp (disch := omega) only [push_cast, seval, ek, c0, z0, c1, z1, addr_add_eq, Nat.zero_add]) | refine iX ?_ ?_ <;> intros | refine aI (by omega) ?_ | refine dq ?_)
    generalize (w7.setCell ⟨ke, 0, none⟩ (.bool true)).setCell ⟨ke, 1, none⟩ (.int .i64 q.1) = w8 at *
    generalize hx8 : (⟨⟨true, q.1, 0, [], []⟩, .slice none 0 0, .slice none 0 0⟩ : Ej) = x8 at *
    have hdec : dec d.length m.length l = (x8.e, q.2) := by rw [hdec0, ← hx8]
    have hx8d : x8.e.d.length ≤ 1000000 := by rw [← hx8]; simp
    have hx8k : x8.e.k.length ≤ 1000000 := by rw [← hx8]; simp
    have hx8z : StZ x8.e.d := by rw [← hx8]; simp [StZ]
    generalize q.2 = s8 at *
    clear hdec0 E7 B7 hT7 lW7 n8 c0 c1 z0 z1 c8
    obtain ⟨f0, f1, f2⟩ := F w8 lW8
    have f5 : cellsAt w8 ⟨ke, 0, none⟩ 5 = some (ejC x8) := Blk.cellsAt (l := ejC x8) E8
    repeat' (first | (simp (disch := omega) only [push_cast, seval, f2, f5]) | refine iX ?_ ?_ <;> intros | refine aI (by omega) ?_ | refine dq ?_)
    refine (dencode_c dv mv d m x8 w8 (h.later (l1.trans lW8)) O8.is hx8z hx8d hx8k).mono ?_
    rintro _ w9 ⟨hen, l9⟩
    have B9 := B8.chg (Chg.of_later (ks := []) l9) (by simp)
    have hT9 := hT8.chg (Chg.of_later (ks := []) l9) (by simp) (by simp)
    rcases hen with ⟨hr, rfl⟩ | ⟨hr, ev, rfl, hev⟩
    · repeat' (first | (simp (disch := omega) only [push_cast, seval]) | refine iX ?_ ?_ <;> intros | refine aI (by omega) ?_ | refine dq ?_)
      refine (rWhole_c kt dd l s8 w9 hT9 hl).mono ?_
      rintro _ w10 ⟨rfl, l10⟩
      have B10 := B9.chg (Chg.of_later (ks := []) l10) (by simp)
      cases hwh : (s8.2 && decide (s8.1 = [])) with
      | false =>
        repeat' (first | (simp (disch := omega) only [push_cast, seval]) | refine iX ?_ ?_ <;> intros | refine aI (by omega) ?_ | refine dq ?_)
        refine vStore_blk (l := [.bool false, .int .i64 0, .int .i64 0, .slice none 0 0, .slice none 0 0]) (xs := ejC ejZ) B10 rfl rfl (ej_one (w := w) ⟨Sl.nil _, Sl.nil _⟩) ?_
        intro w20 B20 c20
        repeat' (first | (simp (disch := omega) only [push_cast, seval]) | refine iX ?_ ?_ <;> intros | refine aI (by omega) ?_ | refine dq ?_)
        refine resK_cells (s := 5) (by simp (disch := omega) only [push_cast, seval]) (by rw [Try.underlying43]; exact sz43) (Blk.cellsAt (l := ejC ejZ) B20) ?_
        repeat' (first | (simp (disch := omega) only [push_cast, seval]) | refine iX ?_ ?_ <;> intros | refine aI (by omega) ?_ | refine dq ?_)
        exact ⟨.inl ⟨by unfold decR; rw [hdec, if_neg (by dsimp only; rw [hr]; simp)], rfl⟩, l1.trans (Chg.later (lW8.trans (l9.trans l10)) c20 (by intro k hk; rw [List.mem_singleton.1 hk]; omega))⟩

      | true =>
        repeat' (first | (simp (disch := omega) only [push_cast, seval]) | refine iX ?_ ?_ <;> intros | refine aI (by omega) ?_ | refine dq ?_)
        refine vStore_blk (l := [.bool false, .int .i64 0, .int .i64 0, .slice none 0 0, .slice none 0 0]) (xs := ejC ejZ) B10 rfl rfl (ej_one (w := w) ⟨Sl.nil _, Sl.nil _⟩) ?_
        intro w20 B20 c20
        repeat' (first | (simp (disch := omega) only [push_cast, seval]) | refine iX ?_ ?_ <;> intros | refine aI (by omega) ?_ | refine dq ?_)
        refine resK_cells (s := 5) (by simp (disch := omega) only [push_cast, seval]) (by rw [Try.underlying43]; exact sz43) (Blk.cellsAt (l := ejC ejZ) B20) ?_
        repeat' (first | (simp (disch := omega) only [push_cast, seval]) | refine iX ?_ ?_ <;> intros | refine aI (by omega) ?_ | refine dq ?_)
        exact ⟨.inl ⟨by unfold decR; rw [hdec, if_neg (by dsimp only; rw [hr]; simp)], rfl⟩, l1.trans (Chg.later (lW8.trans (l9.trans l10)) c20 (by intro k hk; rw [List.mem_singleton.1 hk]; omega))⟩

    · obtain ⟨oe, ce, rfl⟩ := hev.slice
      repeat' (first | (simp (disch := omega) only [push_cast, seval]) | refine iX ?_ ?_ <;> intros | refine aI (by omega) ?_ | refine dq ?_)
      refine (rWhole_c kt dd l s8 w9 hT9 hl).mono ?_
      rintro _ w10 ⟨rfl, l10⟩
      have l810 := l9.trans l10
      have B10 := B9.chg (Chg.of_later (ks := []) l10) (by simp)
      cases hwh : (s8.2 && decide (s8.1 = [])) with
      | false =>
        repeat' (first | (simp (disch := omega) only [push_cast, seval]) | refine iX ?_ ?_ <;> intros | refine aI (by omega) ?_ | refine dq ?_)
        refine vStore_blk (l := [.bool false, .int .i64 0, .int .i64 0, .slice none 0 0, .slice none 0 0]) (xs := ejC ejZ) B10 rfl rfl (ej_one (w := w) ⟨Sl.nil _, Sl.nil _⟩) ?_
        intro w20 B20 c20
        repeat' (first | (simp (disch := omega) only [push_cast, seval]) | refine iX ?_ ?_ <;> intros | refine aI (by omega) ?_ | refine dq ?_)
        refine resK_cells (s := 5) (by simp (disch := omega) only [push_cast, seval]) (by rw [Try.underlying43]; exact sz43) (Blk.cellsAt (l := ejC ejZ) B20) ?_
        repeat' (first | (simp (disch := omega) only [push_cast, seval]) | refine iX ?_ ?_ <;> intros | refine aI (by omega) ?_ | refine dq ?_)
        exact ⟨.inl ⟨by unfold decR; rw [hdec, if_neg (by dsimp only; intro hh; rw [hh.1, hh.2.1] at hwh; simp at hwh)], rfl⟩, l1.trans (Chg.later (lW8.trans l810) c20 (by intro k hk; rw [List.mem_singleton.1 hk]; omega))⟩

      | true =>
        simp only [Bool.and_eq_true, decide_eq_true_eq] at hwh
        obtain ⟨hs2, hnil⟩ := hwh
        have hle : encE x8.e = l := by
          have := dec_ok (nd := d.length) (nm := m.length) (l := l) (by rw [hdec]; exact hs2)
          rw [hdec] at this
          dsimp only at this
          rw [hnil, List.append_nil] at this
          exact this.symm
        rw [hle] at hev
        repeat' (first | (simp (disch := omega) only [push_cast, seval, hle]) | refine iX ?_ ?_ <;> intros | refine aI (by omega) ?_ | refine dq ?_)
        refine vConv_bytes Try.underlying25 Try.underlying9 Try.underlying5 (hev.sl.later l10) ?_
        repeat' (first | (simp (disch := omega) only [push_cast, seval]) | refine iX ?_ ?_ <;> intros | refine aI (by omega) ?_ | refine dq ?_)
        refine vConv_bytes Try.underlying25 Try.underlying9 Try.underlying5 (hv.later (l1.trans (lW8.trans l810))) ?_
        have f6 : cellsAt w10 ⟨ke, 0, none⟩ 5 = some (ejC x8) := Blk.cellsAt (l := ejC x8) (E8.chg (Chg.of_later (ks := []) l810) (by simp))
        have O9 := O8.later l810
        have hdd : decide (strOf l = strOf l) = true := decide_eq_true rfl
        repeat' (first | (simp (disch := omega) only [push_cast, seval, hdd, f6]) | refine iX ?_ ?_ <;> intros | refine aI (by omega) ?_ | refine dq ?_)
        refine vStore_blk (l := [.bool false, .int .i64 0, .int .i64 0, .slice none 0 0, .slice none 0 0]) (xs := ejC x8) B10 rfl rfl (ej_one O9.is) ?_
        intro w20 B20 c20
        repeat' (first | (simp (disch := omega) only [push_cast, seval]) | refine iX ?_ ?_ <;> intros | refine aI (by omega) ?_ | refine dq ?_)
        refine resK_cells (s := 5) (by simp (disch := omega) only [push_cast, seval]) (by rw [Try.underlying43]; exact sz43) (Blk.cellsAt (l := ejC x8) B20) ?_
        repeat' (first | (simp (disch := omega) only [push_cast, seval]) | refine iX ?_ ?_ <;> intros | refine aI (by omega) ?_ | refine dq ?_)
        refine ⟨.inr ⟨x8, by unfold decR; rw [hdec, if_pos ⟨hs2, hnil, hr⟩], rfl, ?_⟩, l1.trans (Chg.later (lW8.trans l810) c20 (by intro k hk; rw [List.mem_singleton.1 hk]; omega))⟩
        exact EjO.base ⟨own_chg O9.dO c20 (by intro k hk; rw [List.mem_singleton.1 hk]; omega), own_chg O9.kO c20 (by intro k hk; rw [List.mem_singleton.1 hk]; omega)⟩ hBw
  · rw [if_neg hk] at hdec0
    have ek : decide (kind = 1) = false := decide_eq_false hk
    have c2 : w7.cell? ⟨ke, 2, none⟩ = some (.int .i64 0) := E7.cell 2
    have z2 := E7.frozen 2
    have E8 : Blk (w7.setCell ⟨ke, 2, none⟩ (.int .i64 q.1)) ke #[.bool false, .int .i64 0, .int .i64 q.1, .slice none 0 0, .slice none 0 0] 43 := E7.set 2 (.int .i64 q.1)
    have c8 : Chg w7 (w7.setCell ⟨ke, 2, none⟩ (.int .i64 q.1)) [ke] := (Chg.refl w7 [ke]).set (by simp) _
    have B8 := B7.chg c8 (by simp; omega)
    have hT8 := hT7.chg c8 (by simp; omega) (by simp; omega)
    have lW8 : Later w1 (w7.setCell ⟨ke, 2, none⟩ (.int .i64 q.1)) := Chg.later lW7 c8 (by intro k hk; rw [List.mem_singleton.1 hk]; omega)
    have s8' := c8.size
    obtain ⟨f0, f1, f2⟩ := F _ lW8
    repeat' (first | (simp (disch := omega) only [push_cast, seval, ek, c2, z2, addr_add_eq, Nat.zero_add]) | refine iX ?_ ?_ <;> intros | refine aI (by omega) ?_ | refine dq ?_)
    generalize w7.setCell ⟨ke, 2, none⟩ (.int .i64 q.1) = w8 at *
    clear E7 B7 hT7 lW7 c2 z2 c8
    have hRc : ∀ (a b : World) (ks : List Nat), (Later w1 a ∧ Blk a k4 #[.bool false, .int .i64 0, .int .i64 0, .slice none 0 0, .slice none 0 0] 43) → Chg a b ks → (∀ k ∈ ks, k = kt ∨ k = ke ∨ ke + 1 ≤ k) → (Later w1 b ∧ Blk b k4 #[.bool false, .int .i64 0, .int .i64 0, .slice none 0 0, .slice none 0 0] 43) := fun a b ks ⟨r1, r2⟩ g hks =>
      ⟨Chg.later r1 g (fun k hk => by have := hks k hk; omega), r2.chg g (fun hm => by have := hks _ hm; omega)⟩
    refine vc_loop W32_0 (fun i : Nat => [(10, .int .i64 (i : Int))])
      (fun i w' => i ≤ d.length ∧ (Later w1 w' ∧ Blk w' k4 #[.bool false, .int .i64 0, .int .i64 0, .slice none 0 0, .slice none 0 0] 43) ∧ RmS w' kt dd l (pTs i q.2).2 ∧ ke + 1 ≤ w'.heap.size ∧ ∃ v, Blk w' ke #[.bool false, .int .i64 0, .int .i64 q.1, v, .slice none 0 0] 43 ∧ OwnS w' (ke + 1) v (pTs i q.2).1) (fun i => d.length - i) 0 (by decide) ?_ ?_ ?_
    · simp (disch := omega) only [push_cast, seval]
    · exact ⟨by omega, ⟨lW8, B8⟩, hT8, by omega, _, E8, own_nil _ _ _ _⟩
    rintro i uu w9 ⟨hi, hR9, hT9, hB9, v9, E9, O9⟩
    obtain ⟨f0, f1, f2⟩ := F w9 hR9.1
    rw [hdv] at f0
    by_cases hlt : i < d.length
    · repeat' (first | (simp (disch := omega) only [push_cast, seval, f0, addr_add_eq, Nat.zero_add]) | refine iX ?_ ?_ <;> intros | refine aI (by omega) ?_ | refine dq ?_)
      refine Or.inr (jreg3_c (vi := .int .i64 (i : Int)) (by first | rfl | (simp (disch := omega) only [push_cast, seval]; rfl)) (by first | rfl | (simp (disch := omega) only [push_cast, seval]; rfl)) (by first | rfl | (simp (disch := omega) only [push_cast, seval]; rfl)) hR9 hT9 E9 O9 (by omega) hRc (by omega) hB9 (by rw [pTs_len]; omega) hl ?_)
      intro σ1 w10 v' q6 q7 qi hR10 hT10 E10 O10 hB10
      repeat' (first | (simp (disch := omega) only [push_cast, seval, qi]) | refine iX ?_ ?_ <;> intros | refine aI (by omega) ?_ | refine dq ?_)
      exact ⟨rfl, i + 1, by simp (disch := omega) only [push_cast, seval, qi], ⟨by omega, hR10, hT10, hB10, v', E10, O10⟩, by dsimp only; omega⟩
    have hie : i = d.length := by omega
    subst hie
    repeat' (first | (simp (disch := omega) only [push_cast, seval, f0, addr_add_eq, Nat.zero_add]) | refine iX ?_ ?_ <;> intros | refine aI (by omega) ?_ | refine dq ?_)
    have hge := own_ge O9
    have hlt9 := own_lt O9
    have hRc2 : ∀ (a b : World) (ks : List Nat), ((Later w1 a ∧ Blk a k4 #[.bool false, .int .i64 0, .int .i64 0, .slice none 0 0, .slice none 0 0] 43) ∧ OwnS a (ke + 1) v9 (pTs d.length q.2).1) → Chg a b ks → (∀ k ∈ ks, k = kt ∨ k = ke ∨ w9.heap.size ≤ k) → ((Later w1 b ∧ Blk b k4 #[.bool false, .int .i64 0, .int .i64 0, .slice none 0 0, .slice none 0 0] 43) ∧ OwnS b (ke + 1) v9 (pTs d.length q.2).1) := fun a b ks ⟨r1, r2⟩ g hks =>
      ⟨hRc a b ks r1 g (fun k hk => by have := hks k hk; omega), own_not r2 g (fun k hk hm => by have h1 := hks k hm; have h2 := hge k hk; have h3 := hlt9 k hk; omega)⟩
    refine vc_loop W32_1 (fun i : Nat => [(11, .int .i64 (i : Int))])
      (fun i w' => i ≤ m.length ∧ ((Later w1 w' ∧ Blk w' k4 #[.bool false, .int .i64 0, .int .i64 0, .slice none 0 0, .slice none 0 0] 43) ∧ OwnS w' (ke + 1) v9 (pTs d.length q.2).1) ∧ RmS w' kt dd l (pIs i (pTs d.length q.2).2).2 ∧ w9.heap.size ≤ w'.heap.size ∧ ∃ v, Blk w' ke #[.bool false, .int .i64 0, .int .i64 q.1, v9, v] 43 ∧ OwnI w' w9.heap.size 3 v (pIs i (pTs d.length q.2).2).1) (fun i => m.length - i) 0 (by decide) ?_ ?_ ?_
    · simp (disch := omega) only [push_cast, seval]
    · exact ⟨by omega, ⟨hR9, O9⟩, hT9, Nat.le_refl _, _, E9, own_nil _ _ _ _⟩
    rintro j uu2 w11 ⟨hj, hR11, hT11, hB11, v11, E11, O11⟩
    obtain ⟨f0, f1, f2⟩ := F w11 hR11.1.1
    rw [hmv] at f1
    by_cases hlt : j < m.length
    · repeat' (first | (simp (disch := omega) only [push_cast, seval, f1, addr_add_eq, Nat.zero_add]) | refine iX ?_ ?_ <;> intros | refine aI (by omega) ?_ | refine dq ?_)
      refine Or.inr (jreg4_c (vi := .int .i64 (j : Int)) (by first | rfl | (simp (disch := omega) only [push_cast, seval]; rfl)) (by first | rfl | (simp (disch := omega) only [push_cast, seval]; rfl)) (by first | rfl | (simp (disch := omega) only [push_cast, seval]; rfl)) hR11 hT11 E11 O11 (by omega) hRc2 (by omega) hB11 (by rw [pIs_len]; omega) hl ?_)
      intro σ1 w12 v' q6 q7 qi hR12 hT12 E12 O12 hB12
      repeat' (first | (simp (disch := omega) only [push_cast, seval, qi]) | refine iX ?_ ?_ <;> intros | refine aI (by omega) ?_ | refine dq ?_)
      exact ⟨rfl, j + 1, by simp (disch := omega) only [push_cast, seval, qi], ⟨by omega, hR12, hT12, hB12, v', E12, O12⟩, by dsimp only; omega⟩
    have hje : j = m.length := by omega
    subst hje
    obtain ⟨⟨lW8, B8⟩, Od⟩ := hR11
    have O8 : EjO w11 (ke + 1) ⟨⟨false, 0, q.1, (pTs d.length q.2).1, (pIs m.length (pTs d.length q.2).2).1⟩, v9, v11⟩ := ⟨Od, own_base O11 hB9⟩
    have E8 : Blk w11 ke (ejC ⟨⟨false, 0, q.1, (pTs d.length q.2).1, (pIs m.length (pTs d.length q.2).2).1⟩, v9, v11⟩).toArray 43 := E11
    have ld := pTs_len d.length q.2
    have lm := pIs_len m.length (pTs d.length q.2).2
    generalize hx8 : (⟨⟨false, 0, q.1, (pTs d.length q.2).1, (pIs m.length (pTs d.length q.2).2).1⟩, v9, v11⟩ : Ej) = x8 at *
    have hdec : dec d.length m.length l = (x8.e, (pIs m.length (pTs d.length q.2).2).2) := by rw [hdec0, ← hx8]
    have hx8d : x8.e.d.length ≤ 1000000 := by rw [← hx8]; dsimp only; omega
    have hx8k : x8.e.k.length ≤ 1000000 := by rw [← hx8]; dsimp only; omega
    have hx8z : StZ x8.e.d := by rw [← hx8]; exact fun s hs => Nat.le_trans (pTs_sz _ _ s hs) (by omega)
    have hT8 := hT11
    generalize (pIs m.length (pTs d.length q.2).2).2 = s8 at *
    clear hdec0 E9 O9 E11 O11 Od hT9 hT11 hR9
    repeat' (first | (simp (disch := omega) only [push_cast, seval, f1, addr_add_eq, Nat.zero_add]) | refine iX ?_ ?_ <;> intros | refine aI (by omega) ?_ | refine dq ?_)
    obtain ⟨f0, f1, f2⟩ := F w11 lW8
    have f5 : cellsAt w11 ⟨ke, 0, none⟩ 5 = some (ejC x8) := Blk.cellsAt (l := ejC x8) E8
    repeat' (first | (simp (disch := omega) only [push_cast, seval, f2, f5]) | refine iX ?_ ?_ <;> intros | refine aI (by omega) ?_ | refine dq ?_)
    refine (dencode_c dv mv d m x8 w11 (h.later (l1.trans lW8)) O8.is hx8z hx8d hx8k).mono ?_
    rintro _ w13 ⟨hen, l9⟩
    have B9 := B8.chg (Chg.of_later (ks := []) l9) (by simp)
    have hT9 := hT8.chg (Chg.of_later (ks := []) l9) (by simp) (by simp)
    rcases hen with ⟨hr, rfl⟩ | ⟨hr, ev, rfl, hev⟩
    · repeat' (first | (simp (disch := omega) only [push_cast, seval]) | refine iX ?_ ?_ <;> intros | refine aI (by omega) ?_ | refine dq ?_)
      refine (rWhole_c kt dd l s8 w13 hT9 hl).mono ?_
      rintro _ w14 ⟨rfl, l10⟩
      have B10 := B9.chg (Chg.of_later (ks := []) l10) (by simp)
      cases hwh : (s8.2 && decide (s8.1 = [])) with
      | false =>
        repeat' (first | (simp (disch := omega) only [push_cast, seval]) | refine iX ?_ ?_ <;> intros | refine aI (by omega) ?_ | refine dq ?_)
        refine vStore_blk (l := [.bool false, .int .i64 0, .int .i64 0, .slice none 0 0, .slice none 0 0]) (xs := ejC ejZ) B10 rfl rfl (ej_one (w := w) ⟨Sl.nil _, Sl.nil _⟩) ?_
        intro w20 B20 c20
        repeat' (first | (simp (disch := omega) only [push_cast, seval]) | refine iX ?_ ?_ <;> intros | refine aI (by omega) ?_ | refine dq ?_)
        refine resK_cells (s := 5) (by simp (disch := omega) only [push_cast, seval]) (by rw [Try.underlying43]; exact sz43) (Blk.cellsAt (l := ejC ejZ) B20) ?_
        repeat' (first | (simp (disch := omega) only [push_cast, seval]) | refine iX ?_ ?_ <;> intros | refine aI (by omega) ?_ | refine dq ?_)
        exact ⟨.inl ⟨by unfold decR; rw [hdec, if_neg (by dsimp only; rw [hr]; simp)], rfl⟩, l1.trans (Chg.later (lW8.trans (l9.trans l10)) c20 (by intro k hk; rw [List.mem_singleton.1 hk]; omega))⟩

      | true =>
        repeat' (first | (simp (disch := omega) only [push_cast, seval]) | refine iX ?_ ?_ <;> intros | refine aI (by omega) ?_ | refine dq ?_)
        refine vStore_blk (l := [.bool false, .int .i64 0, .int .i64 0, .slice none 0 0, .slice none 0 0]) (xs := ejC ejZ) B10 rfl rfl (ej_one (w := w) ⟨Sl.nil _, Sl.nil _⟩) ?_
        intro w20 B20 c20
        repeat' (first | (simp (disch := omega) only [push_cast, seval]) | refine iX ?_ ?_ <;> intros | refine aI (by omega) ?_ | refine dq ?_)
        refine resK_cells (s := 5) (by simp (disch := omega) only [push_cast, seval]) (by rw [Try.underlying43]; exact sz43) (Blk.cellsAt (l := ejC ejZ) B20) ?_
        repeat' (first | (simp (disch := omega) only [push_cast, seval]) | refine iX ?_ ?_ <;> intros | refine aI (by omega) ?_ | refine dq ?_)
        exact ⟨.inl ⟨by unfold decR; rw [hdec, if_neg (by dsimp only; rw [hr]; simp)], rfl⟩, l1.trans (Chg.later (lW8.trans (l9.trans l10)) c20 (by intro k hk; rw [List.mem_singleton.1 hk]; omega))⟩

    · obtain ⟨oe, ce, rfl⟩ := hev.slice
      repeat' (first | (simp (disch := omega) only [push_cast, seval]) | refine iX ?_ ?_ <;> intros | refine aI (by omega) ?_ | refine dq ?_)
      refine (rWhole_c kt dd l s8 w13 hT9 hl).mono ?_
      rintro _ w14 ⟨rfl, l10⟩
      have l810 := l9.trans l10
      have B10 := B9.chg (Chg.of_later (ks := []) l10) (by simp)
      cases hwh : (s8.2 && decide (s8.1 = [])) with
      | false =>
        repeat' (first | (simp (disch := omega) only [push_cast, seval]) | refine iX ?_ ?_ <;> intros | refine aI (by omega) ?_ | refine dq ?_)
        refine vStore_blk (l := [.bool false, .int .i64 0, .int .i64 0, .slice none 0 0, .slice none 0 0]) (xs := ejC ejZ) B10 rfl rfl (ej_one (w := w) ⟨Sl.nil _, Sl.nil _⟩) ?_
        intro w20 B20 c20
        repeat' (first | (simp (disch := omega) only [push_cast, seval]) | refine iX ?_ ?_ <;> intros | refine aI (by omega) ?_ | refine dq ?_)
        refine resK_cells (s := 5) (by simp (disch := omega) only [push_cast, seval]) (by rw [Try.underlying43]; exact sz43) (Blk.cellsAt (l := ejC ejZ) B20) ?_
        repeat' (first | (simp (disch := omega) only [push_cast, seval]) | refine iX ?_ ?_ <;> intros | refine aI (by omega) ?_ | refine dq ?_)
        exact ⟨.inl ⟨by unfold decR; rw [hdec, if_neg (by dsimp only; intro hh; rw [hh.1, hh.2.1] at hwh; simp at hwh)], rfl⟩, l1.trans (Chg.later (lW8.trans l810) c20 (by intro k hk; rw [List.mem_singleton.1 hk]; omega))⟩

      | true =>
        simp only [Bool.and_eq_true, decide_eq_true_eq] at hwh
        obtain ⟨hs2, hnil⟩ := hwh
        have hle : encE x8.e = l := by
          have := dec_ok (nd := d.length) (nm := m.length) (l := l) (by rw [hdec]; exact hs2)
          rw [hdec] at this
          dsimp only at this
          rw [hnil, List.append_nil] at this
          exact this.symm
        rw [hle] at hev
        repeat' (first | (simp (disch := omega) only [push_cast, seval, hle]) | refine iX ?_ ?_ <;> intros | refine aI (by omega) ?_ | refine dq ?_)
        refine vConv_bytes Try.underlying25 Try.underlying9 Try.underlying5 (hev.sl.later l10) ?_
        repeat' (first | (simp (disch := omega) only [push_cast, seval]) | refine iX ?_ ?_ <;> intros | refine aI (by omega) ?_ | refine dq ?_)
        refine vConv_bytes Try.underlying25 Try.underlying9 Try.underlying5 (hv.later (l1.trans (lW8.trans l810))) ?_
        have f6 : cellsAt w14 ⟨ke, 0, none⟩ 5 = some (ejC x8) := Blk.cellsAt (l := ejC x8) (E8.chg (Chg.of_later (ks := []) l810) (by simp))
        have O9 := O8.later l810
        have hdd : decide (strOf l = strOf l) = true := decide_eq_true rfl
        repeat' (first | (simp (disch := omega) only [push_cast, seval, hdd, f6]) | refine iX ?_ ?_ <;> intros | refine aI (by omega) ?_ | refine dq ?_)
        refine vStore_blk (l := [.bool false, .int .i64 0, .int .i64 0, .slice none 0 0, .slice none 0 0]) (xs := ejC x8) B10 rfl rfl (ej_one O9.is) ?_
        intro w20 B20 c20
        repeat' (first | (simp (disch := omega) only [push_cast, seval]) | refine iX ?_ ?_ <;> intros | refine aI (by omega) ?_ | refine dq ?_)
        refine resK_cells (s := 5) (by simp (disch := omega) only [push_cast, seval]) (by rw [Try.underlying43]; exact sz43) (Blk.cellsAt (l := ejC x8) B20) ?_
        repeat' (first | (simp (disch := omega) only [push_cast, seval]) | refine iX ?_ ?_ <;> intros | refine aI (by omega) ?_ | refine dq ?_)
        refine ⟨.inr ⟨x8, by unfold decR; rw [hdec, if_pos ⟨hs2, hnil, hr⟩], rfl, ?_⟩, l1.trans (Chg.later (lW8.trans l810) c20 (by intro k hk; rw [List.mem_singleton.1 hk]; omega))⟩
        exact EjO.base ⟨own_chg O9.dO c20 (by intro k hk; rw [List.mem_singleton.1 hk]; omega), own_chg O9.kO c20 (by intro k hk; rw [List.mem_singleton.1 hk]; omega)⟩ hBw
end Go.Proofs.Ytcajkjbempagaaa
end
section
namespace Go.Proofs.Ytcajkjbempagaaa
end Go.Proofs.Ytcajkjbempagaaa
end
section
set_option linter.unusedSimpArgs false
namespace Go.Proofs.Ytcajkjbempagaaa
open Go.Vc
set_option maxRecDepth 100000
theorem ints_c (u v : Value) (a b : List Int) (w : World) (hu : Sl w u (a.map i64v)) (hv : Sl w v (b.map i64v)) : FnC Try.prog 42 #[u, v] w fun r w' => r = .bool (decide (a = b)) ∧ Later w w' := by
  obtain ⟨oa, ca, rfl, g1, g2, hu, g3⟩ := hu.openM
  obtain ⟨ob, cb, rfl, k1, k2, hv, k3⟩ := hv.openM
  refine enter42 _ _ ?_
  unfold B42
  by_cases hlen : a.length = b.length
  · repeat' (first | (simp (disch := omega) only [push_cast, seval]) | refine iX ?_ ?_ <;> intros | refine aI (by omega) ?_ | refine dq ?_)
    refine vc_loop W42_0 (fun i : Nat => [(4, .bool false), (5, .int .i64 (i : Int))])
      (fun i w' => i ≤ a.length ∧ Later w w' ∧ a.take i = b.take i) (fun i => a.length - i) 0 (by decide) ?_ ?_ ?_
    · simp (disch := omega) only [push_cast, seval]
    · exact ⟨by omega, Later.refl _, by simp⟩
    rintro i uu w0 ⟨hi, hl, he⟩
    by_cases ha : i < a.length
    · have hb : i < b.length := by omega
      obtain ⟨aa, rfl⟩ := hu.some (show 0 < a.length by omega)
      obtain ⟨bb, rfl⟩ := hv.some (show 0 < b.length by omega)
      have c1 := (hu.later hl).atI ha
      have c2 := (hv.later hl).atI hb
      by_cases hab : a[i] = b[i]
      · repeat' (first | (simp (disch := omega) only [push_cast, seval, c1, c2, hab]) | refine iX ?_ ?_ <;> intros | refine aI (by omega) ?_ | refine dq ?_)
        intro w1 hl1
        repeat' (first | (simp (disch := omega) only [push_cast, seval]) | refine iX ?_ ?_ <;> intros | refine aI (by omega) ?_ | refine dq ?_)
        refine ⟨rfl, i + 1, by simp (disch := omega) only [push_cast, seval], ⟨by omega, hl.trans hl1, ?_⟩, by dsimp only; omega⟩
        rw [take_snoc a i ha, take_snoc b i hb, he, hab]
      · have hne : a ≠ b := fun e => by subst e; exact hab rfl
        repeat' (first | (simp (disch := omega) only [push_cast, seval, c1, c2, hab]) | refine iX ?_ ?_ <;> intros | refine aI (by omega) ?_ | refine dq ?_)
        intro w1 hl1
        repeat' (first | (simp (disch := omega) only [push_cast, seval]) | refine iX ?_ ?_ <;> intros | refine aI (by omega) ?_ | refine dq ?_)
        simp [hne, hl.trans hl1]
    · have e : i = a.length := by omega
      subst e
      rw [List.take_length, hlen, List.take_length] at he
      repeat' (first | (simp (disch := omega) only [push_cast, seval]) | refine iX ?_ ?_ <;> intros | refine aI (by omega) ?_ | refine dq ?_)
      simp [he, hl]
  · have hne : a ≠ b := fun e => by subst e; exact hlen rfl
    repeat' (first | (simp (disch := omega) only [push_cast, seval]) | refine iX ?_ ?_ <;> intros | refine aI (by omega) ?_ | refine dq ?_)
    simp [hne, Later.refl]
end Go.Proofs.Ytcajkjbempagaaa
end
section
namespace Go.Vc
open Go.RowKit
theorem SlN.preN {w : World} {s n c : Nat} {o : Option Addr} {xs : List Value} (h : SlN w s (.slice o n c) n xs) {k : Nat} (hk : k ≤ n) : SlN w s (.slice o k c) k (xs.take (k * s)) := by
  obtain ⟨_, hc, hm, hl, _⟩ := h.len
  have hs := h.part (l := 0) (k := (k : Int)) (m := (c : Int)) (by omega) (by omega) (by omega) (by omega) (by omega)
  simp only [Int.sub_zero, Int.toNat_zero, Nat.zero_mul, List.drop_zero, Int.toNat_natCast] at hs
  unfold slAddr at hs
  split at hs
  · exact hs
  · cases o with
    | none => exact hs
    | some a => simpa [addr_add_zero] using hs
theorem flat_take (l : List (Int × Int)) : ∀ k : Nat, (l.map pairC).flatten.take (k * 2) = ((l.take k).map pairC).flatten := by
  induction l with
  | nil => intro k; simp
  | cons p l ih =>
    intro k
    cases k with
    | zero => simp
    | succ k =>
      have e : (k + 1) * 2 = k * 2 + 2 := by omega
      rw [e, List.map_cons, List.flatten_cons, List.take_succ_cons, List.map_cons, List.flatten_cons, ← ih k]
      show (pairC p ++ (l.map pairC).flatten).take (k * 2 + 2) = _
      have e2 : (pairC p).length = 2 := rfl
      rw [List.take_append, e2]
      simp [pairC]
end Go.Vc
end
section
namespace Go.Vc
open Go.RowKit
section
variable {α : Type} {enc : α → List Value} {k : Nat}
def RecS (enc : α → List Value) (k : Nat) (w : World) (v : Value) (l : List α) : Prop := SlN w k v l.length (l.map enc).flatten
def OwnR (enc : α → List Value) (k : Nat) (w : World) (B : Nat) (e : TypeId) (v : Value) (l : List α) : Prop := w.ownsRow B e k v l.length (l.map enc).flatten
theorem rec_len (hk : ∀ x, (enc x).length = k) (l : List α) : ∀ r ∈ l.map enc, r.length = k := by
  intro r hr
  obtain ⟨p, _, rfl⟩ := List.mem_map.1 hr
  exact hk p
theorem RecS.later {w w' : World} {v : Value} {l : List α} (h : RecS enc k w v l) (hl : Later w w') : RecS enc k w' v l := SlN.later h hl
theorem OwnR.s {w : World} {B : Nat} {e : TypeId} {v : Value} {l : List α} (h : OwnR enc k w B e v l) : RecS enc k w v l := SlN.of_own h
theorem OwnR.later {w w' : World} {B : Nat} {e : TypeId} {v : Value} {l : List α} (h : OwnR enc k w B e v l) (hl : Later w w') : OwnR enc k w' B e v l := own_later h hl
theorem OwnR.base {w : World} {B B' : Nat} {e : TypeId} {v : Value} {l : List α} (h : OwnR enc k w B e v l) (hb : B' ≤ B) : OwnR enc k w B' e v l := own_base h hb
theorem OwnR.nil (w : World) (B : Nat) (e : TypeId) : OwnR enc k w B e (.slice none 0 0) [] := own_nil w B e k
theorem RecS.slice {w : World} {v : Value} {l : List α} (h : RecS enc k w v l) : ∃ o c, v = .slice o l.length c ∧ l.length ≤ c ∧ c ≤ 9223372036854775807 := by
  obtain ⟨o, c, hv, h1, h2, _⟩ := SlN.open h
  exact ⟨o, c, hv, h1, by simpa [maxLen] using h2⟩
theorem RecS.nil (w : World) : RecS enc k w (.slice none 0 0) [] := SlN.of_own (own_nil w 0 0 k)
theorem RecS.at (hk : ∀ x, (enc x).length = k) {w : World} {o : Option Addr} {n c : Nat} {l : List α} (h : RecS enc k w (.slice o n c) l) {i : Nat} (hi : i < l.length) : ∃ a, o = some a ∧ cellsAt w (a.add (i * k)) k = some (enc l[i]) := by
  cases o with
  | none => have h1 := SlN.len h; have := h1.2.2.2.2 rfl; have := h1.1; omega
  | some a =>
    have hr : (l.map enc)[i]? = some (enc l[i]) := by simp [hi]
    exact ⟨a, rfl, SlN.row h (rec_len hk l) hr⟩
theorem RecS.cell (hk : ∀ x, (enc x).length = k) {w : World} {a : Addr} {n c : Nat} {l : List α} (h : RecS enc k w (.slice (some a) n c) l) {i j : Nat} (hi : i < l.length) {x : Value} (hx : (enc l[i])[j]? = some x) : w.cell? ((a.add (i * k)).add j) = some x :=
  SlN.rowCell h (rec_len hk l) (by simp [hi]) hx
theorem RecS.lit1 {w : World} {b : Nat} {e : TypeId} {y : α} (hk : (enc y).length = k) (h : Blk w b (enc y).toArray e) : RecS enc k w (.slice (some ⟨b, 0, none⟩) 1 1) [y] := by
  refine SlN.mk (by simp [hk]) (Nat.le_refl _) (by unfold maxLen; omega) (fun h => by cases h) ?_
  intro a ha i x hx
  simp only [Option.some.injEq] at ha
  subst ha
  rw [addr_add_eq, Nat.zero_add, h.cell]
  simpa using hx
end
end Go.Vc
end
