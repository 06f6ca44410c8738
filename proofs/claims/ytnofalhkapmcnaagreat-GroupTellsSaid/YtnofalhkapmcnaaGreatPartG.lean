/- Filters: which rows they take, in plain Lean; the program's Takes. -/
import Derived.Test.YtnofalhkapmcnaaGreatPartF
set_option linter.all false
section
set_option linter.unusedSimpArgs false
namespace Go.Vc
open Go.Cub
/-! Which rows a filter takes. -/
def FT.is1 (row : List ByteArray) (v : ByteArray) : Option Nat → Bool
  | some i => decide (i < row.length) && decide (row[i]! = v)
  | none => false
mutual
def FT.takes (d row : List ByteArray) : FT → Bool
  | .mk op dm v _ l =>
    if op = 1 ∨ op = 2 then FT.is1 row v (fi d dm)
    else if op = 3 then !((FT.tkL d row l).any id) else if op = 4 then (FT.tkL d row l).all id else if op = 5 then (FT.tkL d row l).any id else true
def FT.tkL (d row : List ByteArray) : List FT → List Bool
  | [] => []
  | k :: l => k.takes d row :: FT.tkL d row l
end
theorem FT.tkL_is (d row : List ByteArray) (l : List FT) : FT.tkL d row l = l.map (FT.takes d row) := by
  induction l with
  | nil => rfl
  | cons k l ih => show k.takes d row :: FT.tkL d row l = _; rw [ih]; rfl
theorem FT.takes_is (d row : List ByteArray) (f : FT) : f.takes d row =
    if f.op = 1 ∨ f.op = 2 then FT.is1 row f.value (fi d f.dim)
    else if f.op = 3 then !(f.kids.any (FT.takes d row)) else if f.op = 4 then f.kids.all (FT.takes d row) else if f.op = 5 then f.kids.any (FT.takes d row) else true := by
  obtain ⟨op, dm, v, kv, l⟩ := f
  have e1 : (FT.tkL d row l).any id = l.any (FT.takes d row) := by rw [FT.tkL_is, List.any_map]; rfl
  have e2 : (FT.tkL d row l).all id = l.all (FT.takes d row) := by rw [FT.tkL_is, List.all_map]; rfl
  show (if op = 1 ∨ op = 2 then _ else if op = 3 then !((FT.tkL d row l).any id) else if op = 4 then (FT.tkL d row l).all id else if op = 5 then (FT.tkL d row l).any id else true) = _
  rw [e1, e2]
  rfl
end Go.Vc
namespace Go.Proofs.YtnofalhkapmcnaaGreat
open Go.Vc Go.Key Go.Cub
set_option maxRecDepth 100000
theorem box1 (w : World) (a : Value) (e : TypeId) : Later w (w.alloc (.cells #[a] e)) ∧ (w.alloc (.cells #[a] e)).heap.size = w.heap.size + 1 ∧ ∀ w', Later (w.alloc (.cells #[a] e)) w' → w'.cell? ⟨w.heap.size, 0, none⟩ = some a :=
  ⟨later_alloc _ _, World.size_alloc w _, fun w' hl => hl.cell ((Blk.new w #[a] e).cell 0)⟩
set_option maxHeartbeats 1000000 in
theorem takes_c (dv mv : Value) (d m : List ByteArray) (rv : Value) (row : List ByteArray) : ∀ (f : FT) (w : World), f.Ok w → ScIs w dv mv d m → StS w rv row → FnC Tryz.prog 27 #[.agg (ftC f).toArray, scV dv mv, rv] w fun r w' => r = .bool (f.takes d row) ∧ Later w w' := by
  intro f
  induction f using FT.ind with
  | h f ih =>
  intro w hf hS hR
  obtain ⟨h1, h2, h3, h4, h5⟩ := FT.ok_iff.1 hf
  obtain ⟨o, c, hkv, hc1, hc2⟩ := RecS.slice h4
  obtain ⟨orr, cr, rfl, gr1, gr2, hRm, _⟩ := Sl.openM hR
  have esc : scV dv mv = .agg #[dv, mv] := rfl
  rw [esc]
  refine enter27 _ _ _ ?_
  unfold B27
  have eca : (Value.agg (ftC f).toArray).cells = (ftC f).toArray := rfl
  have ecb : (Value.agg #[dv, mv]).cells = #[dv, mv] := rfl
  have ecr : (Value.slice orr row.length cr).cells = #[.slice orr row.length cr] := rfl
  obtain ⟨l1, s1, B1⟩ := ftBox w f
  rw [FT.takes_is]
  repeat' (first | (simp (disch := omega) only [push_cast, seval, eca, s1]) | refine iX ?_ ?_ <;> intros | refine aI (by omega) ?_ | fail)
  generalize w.alloc (.cells (ftC f).toArray 29) = w1 at *
  obtain ⟨l2, s2, F2⟩ := box2 w1 dv mv 24
  rw [s1] at s2 F2
  repeat' (first | (simp (disch := omega) only [push_cast, seval, ecb, s1, s2]) | refine iX ?_ ?_ <;> intros | refine aI (by omega) ?_ | fail)
  generalize w1.alloc (.cells #[dv, mv] 24) = w2 at *
  obtain ⟨l3, s3, F3⟩ := box1 w2 (.slice orr row.length cr) 22
  rw [s2] at s3 F3
  repeat' (first | (simp (disch := omega) only [push_cast, seval, ecr, s2, s3]) | refine iX ?_ ?_ <;> intros | refine aI (by omega) ?_ | fail)
  generalize w2.alloc (.cells #[.slice orr row.length cr] 22) = w3 at *
  have l4 := later_alloc w3 (.cells #[.func (.func 65) #[] #[.pointer (some ⟨w.heap.size + 1, 0, none⟩), .pointer (some ⟨w.heap.size + 1 + 1, 0, none⟩)]] 91)
  have B4 := Blk.new w3 #[.func (.func 65) #[] #[.pointer (some ⟨w.heap.size + 1, 0, none⟩), .pointer (some ⟨w.heap.size + 1 + 1, 0, none⟩)]] 91
  rw [s3] at B4
  generalize w3.alloc (.cells #[.func (.func 65) #[] #[.pointer (some ⟨w.heap.size + 1, 0, none⟩), .pointer (some ⟨w.heap.size + 1 + 1, 0, none⟩)]] 91) = w4 at *
  have l24 := l3.trans l4
  have l14 := l2.trans l24
  have l04 := l1.trans l14
  generalize hkf : w.heap.size = kf at *
  have FF := fun w' (hl : Later w4 w') => ftAt (ftLater B1 (l14.trans hl))
  have FS := fun w' (hl : Later w4 w') => (F2 w' (l24.trans hl)).2.2
  have FR := fun w' (hl : Later w4 w') => F3 w' (l4.trans hl)
  have FT4 := fun w' (hl : Later w4 w') => (B4.chg (Chg.of_later (ks := []) hl) (by simp)).cell 0
  rw [hkv] at FF
  clear F2 F3 B1 B4 eca ecb ecr s1 s2 s3
  have hS4 := hS.later l04
  have hR4 := hRm.later l04
  obtain ⟨a0, a1, a2, a3⟩ := FF w4 (Later.refl _)
  have b0 := FS w4 (Later.refl _)
  have d0 := FR w4 (Later.refl _)
  have t0 : w4.cell? ⟨kf + 1 + 1 + 1, 0, none⟩ = some (.func (.func 65) #[] #[.pointer (some ⟨kf + 1, 0, none⟩), .pointer (some ⟨kf + 1 + 1, 0, none⟩)]) := FT4 w4 (Later.refl _)
  have hp : ∀ k ∈ f.kids, Prd Tryz.prog w4 65 #[.pointer (some ⟨kf + 1, 0, none⟩), .pointer (some ⟨kf + 1 + 1, 0, none⟩)] (.agg (ftC k).toArray) (k.takes d row) := by
    intro k hk w' hl
    show FnC Tryz.prog 65 #[.agg (ftC k).toArray, .pointer (some ⟨kf + 1, 0, none⟩), .pointer (some ⟨kf + 1 + 1, 0, none⟩)] w' _
    have eck : (Value.agg (ftC k).toArray).cells = (ftC k).toArray := rfl
    obtain ⟨m1, s3, C1⟩ := ftBox w' k
    refine enter65 _ _ _ ?_
    unfold B65
    repeat' (first | (simp (disch := omega) only [push_cast, seval, eck]) | refine iX ?_ ?_ <;> intros | refine aI (by omega) ?_ | refine dq ?_)
    generalize w'.alloc (.cells (ftC k).toArray 29) = w3 at *
    generalize w'.heap.size = kk at *
    have b0 : cellsAt w3 ⟨kk, 0, none⟩ 4 = some (ftC k) := Blk.cellsAt (l := ftC k) C1
    have b1 := FS w3 (hl.trans m1)
    have b2 := FR w3 (hl.trans m1)
    repeat' (first | (simp (disch := omega) only [push_cast, seval, b0, b1, b2]) | refine iX ?_ ?_ <;> intros | refine aI (by omega) ?_ | refine dq ?_)
    refine (ih k hk w3 ((h5 k hk).later (l04.trans (hl.trans m1))) (hS.later (l04.trans (hl.trans m1))) (hR.later (l04.trans (hl.trans m1)))).mono ?_
    rintro _ w4 ⟨rfl, m4⟩
    repeat' (first | (simp (disch := omega) only [push_cast, seval]) | refine iX ?_ ?_ <;> intros | refine aI (by omega) ?_ | refine dq ?_)
    first | exact ⟨rfl, (m1.trans m4)⟩ | exact (m1.trans m4)
  rw [hkv] at h4
  by_cases k12 : f.op = 1 ∨ f.op = 2
  · rw [if_pos k12]
    rcases k12 with k | k
    rotate_left
    have n1 : ¬ f.op = 1 := by omega
    have e1 : decide (f.op = 1) = false := decide_eq_false n1
    have e2 : decide (f.op = 2) = true := decide_eq_true k
    repeat' (first | (simp (disch := omega) only [push_cast, seval, a0, a1, b0, e1, e2, addr_add_eq, Nat.zero_add]) | refine iX ?_ ?_ <;> intros | refine aI (by omega) ?_ | refine dq ?_)
    rotate_left
    have e1 : decide (f.op = 1) = true := decide_eq_true k
    repeat' (first | (simp (disch := omega) only [push_cast, seval, a0, a1, b0, e1, addr_add_eq, Nat.zero_add]) | refine iX ?_ ?_ <;> intros | refine aI (by omega) ?_ | refine dq ?_)
    all_goals
      refine (dim_c dv mv d m f.dim w4 hS4).mono ?_
      rintro _ w5 ⟨rfl, l5⟩
      obtain ⟨_, _, g2, _⟩ := FF w5 l5
      have g3 := FR w5 l5
      have l05 := l04.trans l5
      unfold fiT
      cases hfi : fi d f.dim with
      | none =>
        have er : FT.is1 row f.value none = false := rfl
        rw [er]
        repeat' (first | (simp (disch := omega) only [push_cast, seval]) | refine iX ?_ ?_ <;> intros | refine aI (by omega) ?_ | refine dq ?_)
        intro w6 l6
        repeat' (first | (simp (disch := omega) only [push_cast, seval]) | refine iX ?_ ?_ <;> intros | refine aI (by omega) ?_ | refine dq ?_)
        first | exact ⟨rfl, (l05.trans l6)⟩ | exact (l05.trans l6)
      | some i =>
        by_cases hil : i < row.length
        · obtain ⟨ar, rfl⟩ := hRm.some hil
          have hc := StS.atS (hRm.later l05) hil
          have dl : decide ((i : Int) < (row.length : Int)) = true := decide_eq_true (by omega)
          have ei : row[i]! = row[i] := getElem!_pos row i hil
          have er : FT.is1 row f.value (some i) = decide (row[i] = f.value) := by show (decide (i < row.length) && decide (row[i]! = f.value)) = _; rw [decide_eq_true hil, ei, Bool.true_and]
          rw [er]
          repeat' (first | (simp (disch := omega) only [push_cast, seval, Option.getD_some, g2, g3, hc, dl, addr_add_eq, Nat.zero_add]) | refine iX ?_ ?_ <;> intros | refine aI (by omega) ?_ | refine dq ?_)
          intro w6 l6
          repeat' (first | (simp (disch := omega) only [push_cast, seval]) | refine iX ?_ ?_ <;> intros | refine aI (by omega) ?_ | refine dq ?_)
          first | exact ⟨rfl, (l05.trans l6)⟩ | exact (l05.trans l6)
        · have dl : decide ((i : Int) < (row.length : Int)) = false := decide_eq_false (by omega)
          have er : FT.is1 row f.value (some i) = false := by show (decide (i < row.length) && decide (row[i]! = f.value)) = _; rw [decide_eq_false hil, Bool.false_and]
          rw [er]
          repeat' (first | (simp (disch := omega) only [push_cast, seval, Option.getD_some, g2, g3, dl, addr_add_eq, Nat.zero_add]) | refine iX ?_ ?_ <;> intros | refine aI (by omega) ?_ | refine dq ?_)
          intro w6 l6
          repeat' (first | (simp (disch := omega) only [push_cast, seval]) | refine iX ?_ ?_ <;> intros | refine aI (by omega) ?_ | refine dq ?_)
          first | exact ⟨rfl, (l05.trans l6)⟩ | exact (l05.trans l6)
  have e1 : decide (f.op = 1) = false := decide_eq_false (by omega)
  have e2 : decide (f.op = 2) = false := decide_eq_false (by omega)
  rw [if_neg k12]
  by_cases k3 : f.op = 3
  · have e3 : decide (f.op = 3) = true := decide_eq_true k3
    rw [if_pos k3]
    repeat' (first | (simp (disch := omega) only [push_cast, seval, a0, a3, t0, e1, e2, e3, addr_add_eq, Nat.zero_add]) | refine iX ?_ ?_ <;> intros | refine aI (by omega) ?_ | refine dq ?_)
    refine (fcontainsF_c _ _ _ _ (FT.takes d row) w4 (h4.later l04) hp).mono ?_
    rintro _ w5 ⟨rfl, l5⟩
    repeat' (first | (simp (disch := omega) only [push_cast, seval]) | refine iX ?_ ?_ <;> intros | refine aI (by omega) ?_ | refine dq ?_)
    first | exact ⟨rfl, (l04.trans l5)⟩ | exact (l04.trans l5)
  have e3 : decide (f.op = 3) = false := decide_eq_false k3
  rw [if_neg k3]
  by_cases k4 : f.op = 4
  · have e4 : decide (f.op = 4) = true := decide_eq_true k4
    rw [if_pos k4]
    have hp2 : ∀ k ∈ f.kids, Prd Tryz.prog w4 67 #[.pointer (some ⟨kf + 1 + 1 + 1, 0, none⟩)] (.agg (ftC k).toArray) (!k.takes d row) := by
      intro k hk w' hl
      have hc := hp k hk
      show FnC Tryz.prog 67 #[.agg (ftC k).toArray, .pointer (some ⟨kf + 1 + 1 + 1, 0, none⟩)] w' _
      have eck : (Value.agg (ftC k).toArray).cells = (ftC k).toArray := rfl
      obtain ⟨m1, s3, C1⟩ := ftBox w' k
      refine enter67 _ _ ?_
      unfold B67
      repeat' (first | (simp (disch := omega) only [push_cast, seval, eck]) | refine iX ?_ ?_ <;> intros | refine aI (by omega) ?_ | refine dq ?_)
      generalize w'.alloc (.cells (ftC k).toArray 29) = w3 at *
      generalize w'.heap.size = kk at *
      have b0 : cellsAt w3 ⟨kk, 0, none⟩ 4 = some (ftC k) := Blk.cellsAt (l := ftC k) C1
      have t1 : w3.cell? ⟨kf + 1 + 1 + 1, 0, none⟩ = some (.func (.func 65) #[] #[.pointer (some ⟨kf + 1, 0, none⟩), .pointer (some ⟨kf + 1 + 1, 0, none⟩)]) := FT4 w3 (hl.trans m1)
      repeat' (first | (simp (disch := omega) only [push_cast, seval, b0, t1]) | refine iX ?_ ?_ <;> intros | refine aI (by omega) ?_ | refine dq ?_)
      refine (hc w3 (hl.trans m1)).mono ?_
      rintro _ w4 ⟨rfl, m4⟩
      repeat' (first | (simp (disch := omega) only [push_cast, seval]) | refine iX ?_ ?_ <;> intros | refine aI (by omega) ?_ | refine dq ?_)
      first | exact ⟨rfl, (m1.trans m4)⟩ | exact (m1.trans m4)
    repeat' (first | (simp (disch := omega) only [push_cast, seval, a0, a3, e1, e2, e3, e4, addr_add_eq, Nat.zero_add]) | refine iX ?_ ?_ <;> intros | refine aI (by omega) ?_ | refine dq ?_)
    refine (fcontainsF_c _ _ _ _ (fun k => !FT.takes d row k) w4 (h4.later l04) hp2).mono ?_
    rintro _ w5 ⟨rfl, l5⟩
    have ea : (f.kids.any fun k => !FT.takes d row k) = !f.kids.all (FT.takes d row) := by
      generalize f.kids = l
      induction l with
      | nil => rfl
      | cons a l ih => simp [ih]
    rw [ea]
    repeat' (first | (simp (disch := omega) only [push_cast, seval]) | refine iX ?_ ?_ <;> intros | refine aI (by omega) ?_ | refine dq ?_)
    first | exact ⟨(by simp), (l04.trans l5)⟩ | exact (l04.trans l5)
  have e4 : decide (f.op = 4) = false := decide_eq_false k4
  rw [if_neg k4]
  by_cases k5 : f.op = 5
  · have e5 : decide (f.op = 5) = true := decide_eq_true k5
    rw [if_pos k5]
    repeat' (first | (simp (disch := omega) only [push_cast, seval, a0, a3, t0, e1, e2, e3, e4, e5, addr_add_eq, Nat.zero_add]) | refine iX ?_ ?_ <;> intros | refine aI (by omega) ?_ | refine dq ?_)
    refine (fcontainsF_c _ _ _ _ (FT.takes d row) w4 (h4.later l04) hp).mono ?_
    rintro _ w5 ⟨rfl, l5⟩
    repeat' (first | (simp (disch := omega) only [push_cast, seval]) | refine iX ?_ ?_ <;> intros | refine aI (by omega) ?_ | refine dq ?_)
    first | exact ⟨rfl, (l04.trans l5)⟩ | exact (l04.trans l5)
  have e5 : decide (f.op = 5) = false := decide_eq_false k5
  rw [if_neg k5]
  repeat' (first | (simp (disch := omega) only [push_cast, seval, a0, e1, e2, e3, e4, e5, addr_add_eq, Nat.zero_add]) | refine iX ?_ ?_ <;> intros | refine aI (by omega) ?_ | refine dq ?_)
  first | exact ⟨rfl, l04⟩ | exact l04
end Go.Proofs.YtnofalhkapmcnaaGreat
end
section
namespace Go.Proofs.YtnofalhkapmcnaaGreat
open Go.Vc
set_option maxRecDepth 100000
variable (Q : Post) (ds : List Deferred) (σ : Env) (w : World)
/-! 12 columbary/columbaryref13.Same (params #[33, 33], results #[(.tmp 4)], 29 slots) -/
@[push_cast] def W12_0 : List Nat := [4, 5, 6, 12, 13, 14, 15, 16, 17, 18, 19, 20, 21, 22, 23, 24, 25, 26, 27, 28]
abbrev r12_0 : List VOp :=
  [zC 4]
abbrev r12_1 : List VOp :=
  [mv 7 0 33,
   zBM 8 7 33,
   mv 9 1 33,
   zBM 10 9 33,
   zBB 11 3 8 10]
abbrev r12_2 : List VOp :=
  [zC 4]
abbrev r12_3 : List VOp :=
  [zE 5 0 3]
abbrev r12_4 : List VOp :=
  [mv 12 5 3,
   mv 13 0 33,
   zBM 14 13 33,
   zX 15 3 12 14 4]
def r12_6 : List (VOp × List Nat) := [(⟨some 18, .move (.tmp 0), 33, none⟩, [0]), (⟨some 19, .move (.tmp 5), 3, none⟩, [5]), (⟨some 20, .indexAddr 33 (.tmp 18) (.tmp 19), 0, none⟩, [18, 19]), (⟨some 21, .load 55 (.tmp 20), 55, none⟩, [20]), (⟨some 22, .move (.tmp 1), 33, none⟩, [1]), (⟨some 23, .move (.tmp 5), 3, none⟩, [5]), (⟨some 24, .indexAddr 33 (.tmp 22) (.tmp 23), 0, none⟩, [22, 23]), (⟨some 25, .load 55 (.tmp 24), 55, none⟩, [24]), (⟨some 26, .call ⟨.value (.func 33), #[.tmp 21, .tmp 25], #[55, 55]⟩, 4, none⟩, [21, 25]), (⟨some 6, .assign (.tmp 26), 4, none⟩, [26])]
abbrev r12_7 : List VOp :=
  [mv 27 6 4,
   zCR 28 27]
abbrev r12_8 : List VOp :=
  [zC 4]
abbrev r12_5 : List VOp :=
  [mv 16 5 3,
   zG 17 16,
   asg 5 17 3]
abbrev r12_9 : List VOp :=
  [zD 4]
def B12 : VC :=
  (.seq (.region r12_0) (.seq (.seq (.region r12_1) (.cond (.tmp 11) (.seq (.region r12_2) .ret) .skip)) (.seq (.seq (.region r12_3) (.block 0 (.loop (.seq (.seq (.region r12_4) (.cond (.tmp 15) .skip (.exit 0))) (.seq (.block 1 (.seq (.draw (dR r12_6) 3) (.seq (.region r12_7) (.cond (.tmp 28) (.seq (.region r12_8) .ret) .skip)))) (.region r12_5)))))) (.seq (.region r12_9) .ret))))
theorem code12 : ∃ c, Tryz.f12.body = some c ∧ abs Tryz.f12.ntmps c = B12 := ⟨_, rfl, by kernel_rfl⟩
theorem hb12 : HasBody Tryz.prog 12 := hasBody_of Tryz.func12 (by kernel_rfl)
theorem enter12 (x0 x1 : Value) : Ent 12 B12 #[(.tmp 4)] [x0, x1] := ent code12 hb12 Tryz.func12 rfl rfl
@[push_cast] def vr12_6 := vD r12_6.eq_1 rfl 3
/-! 23 columbary/columbarylaw13.Fits (params #[24, 33], results #[(.tmp 4)], 45 slots) -/
@[push_cast] def W23_0 : List Nat := [4, 7, 8, 31, 32, 33, 34, 35, 36, 37, 38, 39, 40, 41, 42, 43, 44]
abbrev r23_0 : List VOp :=
  [zBF 2 24 0,
   zC 4]
abbrev r23_1 : List VOp :=
  [fad 9 24 2 0,
   lda 10 22 9,
   zBW 11 38 10 22 4,
   asg 5 11 4]
abbrev r23_2 : List VOp :=
  [fad 12 24 2 1,
   lda 13 22 12,
   zBW 14 38 13 22 4,
   asg 6 14 4]
abbrev r23_3 : List VOp :=
  [mv 15 5 4,
   zCR 16 15,
   mv 17 16 4,
   zCK 18 6 4 17,
   zCS 19 18 17,
   zCM 20 17 19,
   mv 21 20 4,
   zCK 22 1 33 21,
   zBN 23 22 33 21,
   zR 24 23 120 21,
   zCM 25 21 24,
   mv 26 25 4,
   zCF 27 24 2 26,
   zBX 28 40 27 24 26,
   zCS 29 28 26,
   zCM 30 26 29]
abbrev r23_4 : List VOp :=
  [zC 4]
abbrev r23_5 : List VOp :=
  [zE 7 0 3]
abbrev r23_6 : List VOp :=
  [mv 31 7 3,
   mv 32 1 33,
   zBM 33 32 33,
   zX 34 3 31 33 4]
def r23_8 : List (VOp × List Nat) := [(⟨some 37, .load 24 (.tmp 2), 24, none⟩, [2]), (⟨some 38, .move (.tmp 1), 33, none⟩, [1]), (⟨some 39, .move (.tmp 7), 3, none⟩, [7]), (⟨some 40, .indexAddr 33 (.tmp 38) (.tmp 39), 0, none⟩, [38, 39]), (⟨some 41, .load 55 (.tmp 40), 55, none⟩, [40]), (⟨some 42, .call ⟨.value (.func 55), #[.tmp 37, .tmp 41], #[24, 55]⟩, 4, none⟩, [37, 41]), (⟨some 8, .assign (.tmp 42), 4, none⟩, [42])]
abbrev r23_9 : List VOp :=
  [mv 43 8 4,
   zCR 44 43]
abbrev r23_10 : List VOp :=
  [zC 4]
abbrev r23_7 : List VOp :=
  [mv 35 7 3,
   zG 36 35,
   asg 7 36 3]
abbrev r23_11 : List VOp :=
  [zD 4]
def B23 : VC :=
  (.seq (.region r23_0) (.seq (.region r23_1) (.seq (.region r23_2) (.seq (.seq (.region r23_3) (.cond (.tmp 30) (.seq (.region r23_4) .ret) .skip)) (.seq (.seq (.region r23_5) (.block 0 (.loop (.seq (.seq (.region r23_6) (.cond (.tmp 34) .skip (.exit 0))) (.seq (.block 1 (.seq (.draw (dR r23_8) 3) (.seq (.region r23_9) (.cond (.tmp 44) (.seq (.region r23_10) .ret) .skip)))) (.region r23_7)))))) (.seq (.region r23_11) .ret))))))
theorem code23 : ∃ c, Tryz.f23.body = some c ∧ abs Tryz.f23.ntmps c = B23 := ⟨_, rfl, by kernel_rfl⟩
theorem hb23 : HasBody Tryz.prog 23 := hasBody_of Tryz.func23 (by kernel_rfl)
theorem enter23 (x0 x1 : Value) : Ent 23 B23 #[(.tmp 4)] [x0, x1] := ent code23 hb23 Tryz.func23 rfl rfl
@[push_cast] def vr23_8 := vD r23_8.eq_1 rfl 3
/-! 28 columbary/rows.Fold (params #[33], results #[(.tmp 2), (.tmp 3)], 58 slots) -/
@[push_cast] def W28_0 : List Nat := [2, 3, 4, 6, 7, 8, 9, 16, 17, 18, 19, 20, 21, 22, 23, 24, 25, 26, 27, 28, 29, 30, 31, 32, 33, 34, 35, 36, 37, 38, 39, 40, 41, 42, 43, 44, 45, 46, 47, 48, 49, 50, 51, 52, 53, 54, 55, 56]
abbrev r28_0 : List VOp :=
  [zF 2 33,
   zE 3 0 37]
abbrev r28_1 : List VOp :=
  [mv 10 0 33,
   zBW 11 68 10 33 33,
   asg 0 11 33]
abbrev r28_2 : List VOp :=
  [mv 12 0 33,
   ⟨some 13, .call ⟨.value (.func 69), #[(.tmp 12), (.func 70)], #[33, 95]⟩, 0, none⟩]
abbrev r28_3 : List VOp :=
  [zF 4 33]
abbrev r28_4 : List VOp :=
  [mv 14 0 33,
   zBM 15 14 33,
   zCJ 16]
abbrev r28_5 : List VOp :=
  [zX 17 3 16 15 0]
abbrev r28_6 : List VOp :=
  [iad 18 33 14 16,
   lda 19 55 18,
   zB 6 55,
   zA 55 6 19]
abbrev r28_7 : List VOp :=
  [mv 20 4 33,
   zBM 21 20 33,
   asg 7 21 3]
def r28_8 : List (VOp × List Nat) := [(⟨some 22, .move (.tmp 7), 3, none⟩, [7]), (⟨some 23, .binOp .eql 3 (.tmp 22) (.const (.int .i64 0)) 3, 4, none⟩, [22]), (⟨some 24, .move (.tmp 23), 4, none⟩, [23]), (⟨some 25, .move (.tmp 4), 33, some (24, false)⟩, [4, 24]), (⟨some 26, .move (.tmp 7), 3, some (24, false)⟩, [7, 24]), (⟨some 27, .binOp .sub 3 (.tmp 26) (.const (.int .i64 1)) 3, 3, some (24, false)⟩, [26, 24]), (⟨some 28, .indexAddr 33 (.tmp 25) (.tmp 27), 0, some (24, false)⟩, [25, 27, 24]), (⟨some 29, .load 55 (.tmp 28), 55, some (24, false)⟩, [28, 24]), (⟨some 30, .load 55 (.tmp 6), 55, some (24, false)⟩, [6, 24]), (⟨some 31, .call ⟨.value (.func 70), #[.tmp 29, .tmp 30], #[55, 55]⟩, 3, some (24, false)⟩, [29, 30, 24]), (⟨some 32, .binOp .neq 3 (.tmp 31) (.const (.int .i64 0)) 3, 4, some (24, false)⟩, [31, 24]), (⟨some 33, .pick (.tmp 24) (.const (.bool true)) (.tmp 32), 4, none⟩, [24, 32])]
abbrev r28_9 : List VOp :=
  [mv 34 4 33,
   lda 35 55 6,
   zBJ 36 33 35,
   zBL 37 34 36 33,
   asg 4 37 33]
def r28_10 : List (VOp × List Nat) := [(⟨some 39, .move (.tmp 4), 33, none⟩, [4]), (⟨some 40, .move (.tmp 7), 3, none⟩, [7]), (⟨some 41, .binOp .sub 3 (.tmp 40) (.const (.int .i64 1)) 3, 3, none⟩, [40]), (⟨some 42, .indexAddr 33 (.tmp 39) (.tmp 41), 0, none⟩, [39, 41]), (⟨some 43, .load 55 (.tmp 42), 55, none⟩, [42]), (⟨some 44, .load 55 (.tmp 6), 55, none⟩, [6]), (⟨some 45, .call ⟨.value (.func 71), #[.tmp 43, .tmp 44], #[55, 55]⟩, 96, none⟩, [43, 44]), (⟨some 38, .move (.tmp 45), 96, none⟩, [45]), (⟨some 46, .extract (.tmp 38) 0, 55, none⟩, [38]), (⟨some 47, .extract (.tmp 38) 1, 37, none⟩, [38]), (⟨some 8, .alloc 55, 0, none⟩, []), (⟨none, .store 55 (.tmp 8) (.tmp 46), 0, none⟩, [8, 46]), (⟨some 9, .assign (.tmp 47), 37, none⟩, [47])]
abbrev r28_11 : List VOp :=
  [mv 48 9 37,
   zBA 49 37 48]
abbrev r28_12 : List VOp :=
  [mv 50 9 37,
   zF 2 33,
   asg 3 50 37]
abbrev r28_13 : List VOp :=
  [mv 51 4 33,
   mv 52 7 3,
   zBD 53 52,
   lda 54 55 8,
   iad 55 33 51 53,
   zA 55 55 54]
abbrev r28_14 : List VOp :=
  [zG 56 16,
   mv 16 56 3]
abbrev r28_15 : List VOp :=
  [mv 57 4 33,
   asg 2 57 33,
   zE 3 0 37]
def B28 : VC :=
  (.seq (.region r28_0) (.seq (.region r28_1) (.seq (.region r28_2) (.seq (.region r28_3) (.seq (.seq (.region r28_4) (.block 0 (.loop (.seq (.region r28_5) (.seq (.cond (.tmp 17) .skip (.exit 0)) (.seq (.block 1 (.seq (.region r28_6) (.seq (.region r28_7) (.seq (.seq (.draw (dR r28_8) 4) (.cond (.tmp 33) (.seq (.region r28_9) (.exit 1)) .skip)) (.seq (.drawS (dR r28_10) 2 [47]) (.seq (.seq (.region r28_11) (.cond (.tmp 49) (.seq (.region r28_12) .ret) .skip)) (.region r28_13))))))) (.region r28_14))))))) (.seq (.region r28_15) .ret))))))
theorem code28 : ∃ c, Tryz.f28.body = some c ∧ abs Tryz.f28.ntmps c = B28 := ⟨_, rfl, by kernel_rfl⟩
theorem hb28 : HasBody Tryz.prog 28 := hasBody_of Tryz.func28 (by kernel_rfl)
theorem enter28 (x0 : Value) : Ent 28 B28 #[(.tmp 2), (.tmp 3)] [x0] := ent code28 hb28 Tryz.func28 rfl rfl
@[push_cast] def vr28_8 := vD r28_8.eq_1 rfl 4
@[push_cast] def vr28_10 := vS r28_10.eq_1 rfl 2 [47]
/-! 31 columbary/columbaryref13.Fold (params #[33], results #[(.tmp 2), (.tmp 3)], 94 slots) -/
@[push_cast] def W31_0 : List Nat := [2, 3, 4, 5, 6, 7, 8, 9, 10, 11, 12, 13, 14, 15, 16, 17, 18, 19, 20, 21, 22, 23, 24, 25, 26, 27, 28, 29, 30, 31, 32, 33, 34, 35, 36, 37, 38, 39, 40, 41, 42, 43, 44, 45, 46, 47, 48, 49, 50, 51, 52, 53, 54, 55, 56, 57, 58, 59, 60, 61, 62, 63, 64, 65, 66, 67, 68, 69, 70, 71, 72, 73, 74, 75, 76, 77, 78, 79, 80, 81, 82, 83, 84, 85, 86, 87, 88, 89, 90, 91, 92]
@[push_cast] def W31_1 : List Nat := [6, 7, 20, 21, 22, 23, 24, 25, 26, 27, 28, 29, 30, 31, 32, 33, 34, 35, 36, 37, 38]
abbrev r31_0 : List VOp :=
  [zF 2 33,
   zE 3 0 37]
abbrev r31_1 : List VOp :=
  [zF 4 33]
abbrev r31_2 : List VOp :=
  [zE 5 0 3]
abbrev r31_3 : List VOp :=
  [mv 14 5 3,
   mv 15 0 33,
   zBM 16 15 33,
   zX 17 3 14 16 4]
abbrev r31_5 : List VOp :=
  [zE 6 0 3]
abbrev r31_6 : List VOp :=
  [zD 7]
abbrev r31_7 : List VOp :=
  [mv 20 6 3,
   mv 21 4 33,
   zBM 22 21 33,
   zX 23 3 20 22 4,
   mv 24 23 4,
   zCL 25 7 4 24,
   zCN 26 24 25]
def r31_8 : List (VOp × List Nat) := [(⟨some 27, .move (.tmp 4), 33, none⟩, [4]), (⟨some 28, .move (.tmp 6), 3, none⟩, [6]), (⟨some 29, .indexAddr 33 (.tmp 27) (.tmp 28), 0, none⟩, [27, 28]), (⟨some 30, .load 55 (.tmp 29), 55, none⟩, [29]), (⟨some 31, .move (.tmp 0), 33, none⟩, [0]), (⟨some 32, .move (.tmp 5), 3, none⟩, [5]), (⟨some 33, .indexAddr 33 (.tmp 31) (.tmp 32), 0, none⟩, [31, 32]), (⟨some 34, .load 55 (.tmp 33), 55, none⟩, [33]), (⟨some 35, .call ⟨.value (.func 72), #[.tmp 30, .tmp 34], #[55, 55]⟩, 4, none⟩, [30, 34]), (⟨some 7, .assign (.tmp 35), 4, none⟩, [35])]
abbrev r31_9 : List VOp :=
  [mv 36 7 4]
abbrev r31_10 : List VOp :=
  [mv 37 6 3,
   zG 38 37,
   asg 6 38 3]
abbrev r31_11 : List VOp :=
  [mv 39 0 33,
   mv 40 5 3,
   iad 41 33 39 40,
   lda 42 55 41,
   zB 8 55,
   zA 55 8 42]
abbrev r31_12 : List VOp :=
  [mv 43 6 3,
   asg 9 43 3]
def r31_13 : List (VOp × List Nat) := [(⟨some 44, .move (.tmp 6), 3, none⟩, [6]), (⟨some 45, .move (.tmp 4), 33, none⟩, [4]), (⟨some 46, .call ⟨.builtin .len, #[.tmp 45], #[33]⟩, 3, none⟩, [45]), (⟨some 47, .binOp .lss 3 (.tmp 44) (.tmp 46) 3, 4, none⟩, [44, 46]), (⟨some 48, .move (.tmp 47), 4, none⟩, [47]), (⟨some 49, .move (.tmp 4), 33, some (48, true)⟩, [4, 48]), (⟨some 50, .move (.tmp 6), 3, some (48, true)⟩, [6, 48]), (⟨some 51, .indexAddr 33 (.tmp 49) (.tmp 50), 0, some (48, true)⟩, [49, 50, 48]), (⟨some 52, .load 55 (.tmp 51), 55, some (48, true)⟩, [51, 48]), (⟨some 53, .move (.tmp 0), 33, some (48, true)⟩, [0, 48]), (⟨some 54, .move (.tmp 5), 3, some (48, true)⟩, [5, 48]), (⟨some 55, .indexAddr 33 (.tmp 53) (.tmp 54), 0, some (48, true)⟩, [53, 54, 48]), (⟨some 56, .load 55 (.tmp 55), 55, some (48, true)⟩, [55, 48]), (⟨some 57, .call ⟨.value (.func 73), #[.tmp 52, .tmp 56], #[55, 55]⟩, 4, some (48, true)⟩, [52, 56, 48]), (⟨some 58, .pick (.tmp 48) (.tmp 57) (.const (.bool false)), 4, none⟩, [48, 57]), (⟨some 10, .assign (.tmp 58), 4, none⟩, [58])]
abbrev r31_14 : List VOp :=
  [mv 59 10 4]
def r31_15 : List (VOp × List Nat) := [(⟨some 61, .move (.tmp 4), 33, none⟩, [4]), (⟨some 62, .move (.tmp 6), 3, none⟩, [6]), (⟨some 63, .indexAddr 33 (.tmp 61) (.tmp 62), 0, none⟩, [61, 62]), (⟨some 64, .load 55 (.tmp 63), 55, none⟩, [63]), (⟨some 65, .move (.tmp 0), 33, none⟩, [0]), (⟨some 66, .move (.tmp 5), 3, none⟩, [5]), (⟨some 67, .indexAddr 33 (.tmp 65) (.tmp 66), 0, none⟩, [65, 66]), (⟨some 68, .load 55 (.tmp 67), 55, none⟩, [67]), (⟨some 69, .call ⟨.value (.func 74), #[.tmp 64, .tmp 68], #[55, 55]⟩, 96, none⟩, [64, 68]), (⟨some 60, .move (.tmp 69), 96, none⟩, [69]), (⟨some 70, .extract (.tmp 60) 0, 55, none⟩, [60]), (⟨some 71, .extract (.tmp 60) 1, 37, none⟩, [60]), (⟨some 11, .alloc 55, 0, none⟩, []), (⟨none, .store 55 (.tmp 11) (.tmp 70), 0, none⟩, [11, 70]), (⟨some 12, .assign (.tmp 71), 37, none⟩, [71])]
abbrev r31_16 : List VOp :=
  [mv 72 12 37,
   zBA 73 37 72]
abbrev r31_17 : List VOp :=
  [mv 74 12 37,
   zF 2 33,
   asg 3 74 37]
abbrev r31_18 : List VOp :=
  [lda 75 55 11,
   zA 55 8 75]
abbrev r31_19 : List VOp :=
  [mv 76 6 3,
   zG 77 76,
   asg 9 77 3]
abbrev r31_20 : List VOp :=
  [zBK 78 33,
   mv 79 4 33,
   mv 80 6 3,
   zCQ 81 33 79 80,
   zBL 82 78 81 33,
   asg 13 82 33]
abbrev r31_21 : List VOp :=
  [mv 83 13 33,
   lda 84 55 8,
   zBJ 85 33 84,
   zBL 86 83 85 33,
   asg 13 86 33]
abbrev r31_22 : List VOp :=
  [mv 87 13 33,
   mv 88 4 33,
   mv 89 9 3,
   zCP 90 33 88 89,
   zBL 91 87 90 33,
   asg 13 91 33]
abbrev r31_23 : List VOp :=
  [mv 92 13 33,
   asg 4 92 33]
abbrev r31_4 : List VOp :=
  [mv 18 5 3,
   zG 19 18,
   asg 5 19 3]
abbrev r31_24 : List VOp :=
  [mv 93 4 33,
   asg 2 93 33,
   zE 3 0 37]
def B31 : VC :=
  (.seq (.region r31_0) (.seq (.region r31_1) (.seq (.seq (.region r31_2) (.block 0 (.loop (.seq (.seq (.region r31_3) (.cond (.tmp 17) .skip (.exit 0))) (.seq (.block 1 (.seq (.region r31_5) (.seq (.region r31_6) (.seq (.block 2 (.loop (.seq (.seq (.region r31_7) (.cond (.tmp 26) .skip (.exit 2))) (.block 3 (.seq (.draw (dR r31_8) 3) (.seq (.region r31_9) (.cond (.tmp 36) (.region r31_10) .skip))))))) (.seq (.region r31_11) (.seq (.region r31_12) (.seq (.draw (dR r31_13) 4) (.seq (.seq (.region r31_14) (.cond (.tmp 59) (.seq (.drawS (dR r31_15) 2 [71]) (.seq (.seq (.region r31_16) (.cond (.tmp 73) (.seq (.region r31_17) .ret) .skip)) (.seq (.region r31_18) (.region r31_19)))) .skip)) (.seq (.region r31_20) (.seq (.region r31_21) (.seq (.region r31_22) (.region r31_23)))))))))))) (.region r31_4)))))) (.seq (.region r31_24) .ret))))
theorem code31 : ∃ c, Tryz.f31.body = some c ∧ abs Tryz.f31.ntmps c = B31 := ⟨_, rfl, by kernel_rfl⟩
theorem hb31 : HasBody Tryz.prog 31 := hasBody_of Tryz.func31 (by kernel_rfl)
theorem enter31 (x0 : Value) : Ent 31 B31 #[(.tmp 2), (.tmp 3)] [x0] := ent code31 hb31 Tryz.func31 rfl rfl
@[push_cast] def vr31_8 := vD r31_8.eq_1 rfl 3
@[push_cast] def vr31_13 := vD r31_13.eq_1 rfl 4
@[push_cast] def vr31_15 := vS r31_15.eq_1 rfl 2 [71]
/-! 33 columbary/columbaryref13.One (params #[55, 55], results #[(.tmp 4)], 26 slots) -/
abbrev r33_0 : List VOp :=
  [zBF 2 55 0,
   zBF 3 55 1,
   zC 4]
abbrev r33_1 : List VOp :=
  [lda 7 55 2,
   lda 8 55 3,
   zBU 9 73 7 8 55 55 4,
   asg 5 9 4]
abbrev r33_2 : List VOp :=
  [fad 10 55 2 3,
   lda 11 53 10,
   fad 12 55 3 3,
   lda 13 53 12,
   zBU 14 75 11 13 53 53 4,
   asg 6 14 4]
abbrev r33_3 : List VOp :=
  [mv 15 5 4,
   mv 16 15 4,
   zCL 17 6 4 16,
   zCN 18 16 17,
   mv 19 18 4,
   zCC 20 55 2 2 19,
   zCG 21 3 20 19,
   zCC 22 55 3 2 19,
   zCG 23 3 22 19,
   zN 24 3 21 23 19,
   zCN 25 19 24,
   asg 4 25 4]
def B33 : VC :=
  (.seq (.region r33_0) (.seq (.region r33_1) (.seq (.region r33_2) (.seq (.region r33_3) .ret))))
theorem code33 : ∃ c, Tryz.f33.body = some c ∧ abs Tryz.f33.ntmps c = B33 := ⟨_, rfl, by kernel_rfl⟩
theorem hb33 : HasBody Tryz.prog 33 := hasBody_of Tryz.func33 (by kernel_rfl)
theorem enter33 (x0 x1 : Value) : Ent 33 B33 #[(.tmp 4)] [x0, x1] := ent code33 hb33 Tryz.func33 rfl rfl
/-! 55 columbary/columbaryref13.Right (params #[24, 55], results #[(.tmp 4)], 73 slots) -/
@[push_cast] def W55_0 : List Nat := [4, 5, 6, 25, 26, 27, 28, 29, 30, 31, 32, 33, 34, 35, 36, 37, 38, 39]
@[push_cast] def W55_1 : List Nat := [4, 7, 8, 40, 41, 42, 43, 44, 45, 46, 47, 48, 49, 50, 51, 52, 53, 54]
abbrev r55_0 : List VOp :=
  [zBF 2 24 0,
   zBF 3 55 1,
   zC 4]
abbrev r55_1 : List VOp :=
  [fad 9 55 3 1,
   lda 10 22 9,
   zBM 11 10 22,
   fad 12 24 2 0,
   lda 13 22 12,
   zBM 14 13 22,
   zBB 15 3 11 14,
   mv 16 15 4,
   zCB 17 55 3 3 16,
   zCF 18 53 17 16,
   zBN 19 18 53 16,
   zCB 20 24 2 1 16,
   zCF 21 22 20 16,
   zBN 22 21 22 16,
   ⟨some 23, .binOp .neq 3 (.tmp 19) (.tmp 22) 3, 4, some (16, false)⟩,
   zCM 24 16 23]
abbrev r55_2 : List VOp :=
  [zC 4]
abbrev r55_3 : List VOp :=
  [zE 5 0 3]
abbrev r55_4 : List VOp :=
  [mv 25 5 3,
   fad 26 55 3 1,
   lda 27 22 26,
   zBM 28 27 22,
   zX 29 3 25 28 4]
abbrev r55_6 : List VOp :=
  [fad 32 55 3 1,
   lda 33 22 32,
   mv 34 5 3,
   iad 35 22 33 34,
   lda 36 9 35,
   zBW 37 103 36 9 4,
   asg 6 37 4]
abbrev r55_7 : List VOp :=
  [mv 38 6 4,
   zCR 39 38]
abbrev r55_8 : List VOp :=
  [zC 4]
abbrev r55_5 : List VOp :=
  [mv 30 5 3,
   zG 31 30,
   asg 5 31 3]
abbrev r55_9 : List VOp :=
  [zE 7 0 3]
abbrev r55_10 : List VOp :=
  [mv 40 7 3,
   fad 41 55 3 3,
   lda 42 53 41,
   zBM 43 42 53,
   zX 44 3 40 43 4]
abbrev r55_12 : List VOp :=
  [fad 47 55 3 3,
   lda 48 53 47,
   mv 49 7 3,
   iad 50 53 48 49,
   lda 51 52 50,
   zBW 52 104 51 52 4,
   asg 8 52 4]
abbrev r55_13 : List VOp :=
  [mv 53 8 4,
   zCR 54 53]
abbrev r55_14 : List VOp :=
  [zC 4]
abbrev r55_11 : List VOp :=
  [mv 45 7 3,
   zG 46 45,
   asg 7 46 3]
abbrev r55_15 : List VOp :=
  [fad 55 55 3 0,
   lda 56 3 55,
   zO 57 3 56 0,
   mv 58 57 4,
   zCC 59 55 3 0 58,
   zCG 60 3 59 58,
   zT 61 3 60 1099511627776 58,
   zCN 62 58 61,
   mv 63 62 4,
   zCC 64 55 3 2 63,
   zCG 65 3 64 63,
   zP 66 3 65 1 4 63,
   zCN 67 63 66,
   mv 68 67 4,
   zCC 69 55 3 2 68,
   zCG 70 3 69 68,
   zT 71 3 70 1048576 68,
   zCN 72 68 71,
   asg 4 72 4]
def B55 : VC :=
  (.seq (.region r55_0) (.seq (.seq (.region r55_1) (.cond (.tmp 24) (.seq (.region r55_2) .ret) .skip)) (.seq (.seq (.region r55_3) (.block 0 (.loop (.seq (.seq (.region r55_4) (.cond (.tmp 29) .skip (.exit 0))) (.seq (.block 1 (.seq (.region r55_6) (.seq (.region r55_7) (.cond (.tmp 39) (.seq (.region r55_8) .ret) .skip)))) (.region r55_5)))))) (.seq (.seq (.region r55_9) (.block 2 (.loop (.seq (.seq (.region r55_10) (.cond (.tmp 44) .skip (.exit 2))) (.seq (.block 3 (.seq (.region r55_12) (.seq (.region r55_13) (.cond (.tmp 54) (.seq (.region r55_14) .ret) .skip)))) (.region r55_11)))))) (.seq (.region r55_15) .ret)))))
theorem code55 : ∃ c, Tryz.f55.body = some c ∧ abs Tryz.f55.ntmps c = B55 := ⟨_, rfl, by kernel_rfl⟩
theorem hb55 : HasBody Tryz.prog 55 := hasBody_of Tryz.func55 (by kernel_rfl)
theorem enter55 (x0 x1 : Value) : Ent 55 B55 #[(.tmp 4)] [x0, x1] := ent code55 hb55 Tryz.func55 rfl rfl
/-! 68 columbary/rows.Copy (params #[33], results #[(.tmp 2)], 14 slots) -/
abbrev r68_0 : List VOp :=
  [zF 2 33]
abbrev r68_1 : List VOp :=
  [zB 3 33]
abbrev r68_2 : List VOp :=
  [mv 5 0 33,
   zBW 6 111 5 33 124]
abbrev r68_3 : List VOp :=
  [zB 4 55,
   zA 55 4 7]
def r68_4 : List (VOp × List Nat) := [(⟨some 8, .load 33 (.tmp 3), 33, none⟩, [3]), (⟨some 9, .load 55 (.tmp 4), 55, none⟩, [4]), (⟨some 10, .call ⟨.value (.func 112), #[.tmp 9], #[55]⟩, 55, none⟩, [9]), (⟨some 11, .buildSlice 33 1 #[(0, (.tmp 10))], 33, none⟩, [10]), (⟨some 12, .call ⟨.builtin .append, #[.tmp 8, .tmp 11], #[33, 33]⟩, 33, none⟩, [8, 11]), (⟨none, .store 33 (.tmp 3) (.tmp 12), 0, none⟩, [3, 12])]
abbrev r68_5 : List VOp :=
  [lda 13 33 3,
   asg 2 13 33]
def B68 : VC :=
  (.seq (.region r68_0) (.seq (.region r68_1) (.seq (.seq (.region r68_2) (.block 0 (.rangeFunc (.tmp 6) [7] (.region r68_3) (.block 1 (.drawR (dR r68_4) 3))))) (.seq (.region r68_5) .ret))))
theorem code68 : ∃ c, Tryz.f68.body = some c ∧ abs Tryz.f68.ntmps c = B68 := ⟨_, rfl, by kernel_rfl⟩
theorem hb68 : HasBody Tryz.prog 68 := hasBody_of Tryz.func68 (by kernel_rfl)
theorem enter68 (x0 : Value) : Ent 68 B68 #[(.tmp 2)] [x0] := ent code68 hb68 Tryz.func68 rfl rfl
@[push_cast] def vr68_4 := vE r68_4.eq_1 rfl 3
/-! 70 columbary/rows.Compare (params #[55, 55], results #[(.tmp 4)], 17 slots) -/
abbrev r70_0 : List VOp :=
  [zBF 2 55 0,
   zBF 3 55 1,
   zE 4 0 3]
def r70_1 : List (VOp × List Nat) := [(⟨some 5, .fieldAddr 55 (.tmp 2) 0, 0, none⟩, [2]), (⟨some 6, .load 3 (.tmp 5), 3, none⟩, [5]), (⟨some 7, .fieldAddr 55 (.tmp 3) 0, 0, none⟩, [3]), (⟨some 8, .load 3 (.tmp 7), 3, none⟩, [7]), (⟨some 9, .call ⟨.value (.func 60), #[.tmp 6, .tmp 8], #[3, 3]⟩, 3, none⟩, [6, 8]), (⟨some 10, .fieldAddr 55 (.tmp 2) 1, 0, none⟩, [2]), (⟨some 11, .load 22 (.tmp 10), 22, none⟩, [10]), (⟨some 12, .fieldAddr 55 (.tmp 3) 1, 0, none⟩, [3]), (⟨some 13, .load 22 (.tmp 12), 22, none⟩, [12]), (⟨some 14, .call ⟨.value (.func 115), #[.tmp 11, .tmp 13], #[22, 22]⟩, 3, none⟩, [11, 13]), (⟨some 15, .buildSlice 59 2 #[(0, (.tmp 9)), (1, (.tmp 14))], 59, none⟩, [9, 14]), (⟨some 16, .call ⟨.value (.func 114), #[.tmp 15], #[59]⟩, 3, none⟩, [15]), (⟨some 4, .assign (.tmp 16), 3, none⟩, [16])]
def B70 : VC :=
  (.seq (.region r70_0) (.seq (.draw (dR r70_1) 5) .ret))
theorem code70 : ∃ c, Tryz.f70.body = some c ∧ abs Tryz.f70.ntmps c = B70 := ⟨_, rfl, by kernel_rfl⟩
theorem hb70 : HasBody Tryz.prog 70 := hasBody_of Tryz.func70 (by kernel_rfl)
theorem enter70 (x0 x1 : Value) : Ent 70 B70 #[(.tmp 4)] [x0, x1] := ent code70 hb70 Tryz.func70 rfl rfl
@[push_cast] def vr70_1 := vD r70_1.eq_1 rfl 5
/-! 71 columbary/rows.Join (params #[55, 55], results #[(.cell 4 55), (.tmp 5)], 74 slots) -/
@[push_cast] def W71_0 : List Nat := [5, 7, 8, 9, 10, 48, 49, 50, 51, 52, 53, 54, 55, 56, 57, 58, 59, 60, 61, 62, 63, 64, 65, 66, 67, 68, 69, 70, 71, 72]
abbrev r71_0 : List VOp :=
  [zBF 2 55 0,
   zBF 3 55 1,
   zB 4 55,
   zE 5 0 37]
abbrev r71_1 : List VOp :=
  [lda 12 55 2,
   lda 13 55 3,
   zBU 14 70 12 13 55 55 3,
   zBA 15 3 14,
   mv 16 15 4,
   zCB 17 55 2 3 16,
   zCF 18 53 17 16,
   zBN 19 18 53 16,
   zCB 20 55 3 3 16,
   zCF 21 53 20 16,
   zBN 22 21 53 16,
   ⟨some 23, .binOp .neq 3 (.tmp 19) (.tmp 22) 3, 4, some (16, false)⟩,
   zCM 24 16 23,
   asg 11 24 4]
abbrev r71_2 : List VOp :=
  [zBI 25 55,
   zA 55 4 25,
   zE 5 131 37]
abbrev r71_3 : List VOp :=
  [fad 27 55 2 2,
   lda 28 3 27,
   fad 29 55 3 2,
   lda 30 3 29,
   zH 31 28 30,
   zQ 32 31 1048576,
   asg 26 32 4]
abbrev r71_4 : List VOp :=
  [zBI 33 55,
   zA 55 4 33,
   zE 5 121 37]
def r71_5 : List (VOp × List Nat) := [(⟨some 34, .fieldAddr 55 (.tmp 2) 0, 0, none⟩, [2]), (⟨some 35, .load 3 (.tmp 34), 3, none⟩, [34]), (⟨some 36, .fieldAddr 55 (.tmp 2) 1, 0, none⟩, [2]), (⟨some 37, .load 22 (.tmp 36), 22, none⟩, [36]), (⟨some 38, .call ⟨.value (.func 50), #[.tmp 37], #[22]⟩, 22, none⟩, [37]), (⟨some 39, .fieldAddr 55 (.tmp 2) 2, 0, none⟩, [2]), (⟨some 40, .load 3 (.tmp 39), 3, none⟩, [39]), (⟨some 41, .fieldAddr 55 (.tmp 3) 2, 0, none⟩, [3]), (⟨some 42, .load 3 (.tmp 41), 3, none⟩, [41]), (⟨some 43, .binOp .add 3 (.tmp 40) (.tmp 42) 3, 3, none⟩, [40, 42]), (⟨some 44, .build 55 #[(0, (.tmp 35)), (1, (.tmp 38)), (2, (.tmp 43))], 55, none⟩, [35, 38, 43]), (⟨some 6, .alloc 55, 0, none⟩, []), (⟨none, .store 55 (.tmp 6) (.tmp 44), 0, none⟩, [6, 44])]
abbrev r71_6 : List VOp :=
  [fad 45 55 2 3,
   lda 46 53 45,
   zBM 47 46 53,
   zCJ 48]
abbrev r71_7 : List VOp :=
  [zX 49 3 48 47 0]
abbrev r71_8 : List VOp :=
  [mv 50 48 3,
   iad 51 53 46 48,
   lda 52 52 51,
   zB 8 52,
   asg 7 50 3,
   zA 52 8 52]
def r71_9 : List (VOp × List Nat) := [(⟨some 54, .load 52 (.tmp 8), 52, none⟩, [8]), (⟨some 55, .fieldAddr 55 (.tmp 3) 3, 0, none⟩, [3]), (⟨some 56, .load 53 (.tmp 55), 53, none⟩, [55]), (⟨some 57, .move (.tmp 7), 3, none⟩, [7]), (⟨some 58, .indexAddr 53 (.tmp 56) (.tmp 57), 0, none⟩, [56, 57]), (⟨some 59, .load 52 (.tmp 58), 52, none⟩, [58]), (⟨some 60, .call ⟨.value (.func 116), #[.tmp 54, .tmp 59], #[52, 52]⟩, 130, none⟩, [54, 59]), (⟨some 53, .move (.tmp 60), 130, none⟩, [60]), (⟨some 61, .extract (.tmp 53) 0, 52, none⟩, [53]), (⟨some 62, .extract (.tmp 53) 1, 37, none⟩, [53]), (⟨some 9, .alloc 52, 0, none⟩, []), (⟨none, .store 52 (.tmp 9) (.tmp 61), 0, none⟩, [9, 61]), (⟨some 10, .assign (.tmp 62), 37, none⟩, [62])]
abbrev r71_10 : List VOp :=
  [mv 63 10 37,
   zBA 64 37 63]
abbrev r71_11 : List VOp :=
  [zBI 65 55,
   zA 55 4 65,
   zE 5 121 37]
abbrev r71_12 : List VOp :=
  [fad 66 55 6 3,
   lda 67 53 66,
   lda 68 52 9,
   zBJ 69 53 68,
   zBL 70 67 69 53,
   fad 71 55 6 3,
   zA 53 71 70]
abbrev r71_13 : List VOp :=
  [zG 72 48,
   mv 48 72 3]
abbrev r71_14 : List VOp :=
  [lda 73 55 6,
   zA 55 4 73,
   zE 5 0 37]
def B71 : VC :=
  (.seq (.region r71_0) (.seq (.block 0 (.seq (.region r71_1) (.cond (.tmp 11) (.seq (.region r71_2) .ret) (.seq (.region r71_3) (.cond (.tmp 26) (.seq (.region r71_4) .ret) .skip))))) (.seq (.draw (dR r71_5) 2) (.seq (.seq (.region r71_6) (.block 1 (.loop (.seq (.region r71_7) (.seq (.cond (.tmp 49) .skip (.exit 1)) (.seq (.block 2 (.seq (.region r71_8) (.seq (.drawS (dR r71_9) 2 [62]) (.seq (.seq (.region r71_10) (.cond (.tmp 64) (.seq (.region r71_11) .ret) .skip)) (.region r71_12))))) (.region r71_13))))))) (.seq (.region r71_14) .ret)))))
theorem code71 : ∃ c, Tryz.f71.body = some c ∧ abs Tryz.f71.ntmps c = B71 := ⟨_, rfl, by kernel_rfl⟩
theorem hb71 : HasBody Tryz.prog 71 := hasBody_of Tryz.func71 (by kernel_rfl)
theorem enter71 (x0 x1 : Value) : Ent 71 B71 #[(.cell 4 55), (.tmp 5)] [x0, x1] := ent code71 hb71 Tryz.func71 rfl rfl
@[push_cast] def vr71_5 := vD r71_5.eq_1 rfl 2
@[push_cast] def vr71_9 := vS r71_9.eq_1 rfl 2 [62]
/-! 72 columbary/columbaryref13.Less (params #[55, 55], results #[(.tmp 4)], 52 slots) -/
@[push_cast] def W72_0 : List Nat := [4, 5, 16, 17, 18, 19, 20, 21, 22, 23, 24, 25, 26, 27, 28, 29, 30, 31, 32, 33, 34, 35, 36, 37, 38, 39, 40, 41, 42, 43, 44, 45, 46, 47, 48, 49, 50, 51]
abbrev r72_0 : List VOp :=
  [zBF 2 55 0,
   zBF 3 55 1,
   zC 4]
abbrev r72_1 : List VOp :=
  [fad 6 55 2 0,
   lda 7 3 6,
   fad 8 55 3 0,
   lda 9 3 8,
   zBB 10 3 7 9]
abbrev r72_2 : List VOp :=
  [fad 11 55 2 0,
   lda 12 3 11,
   fad 13 55 3 0,
   lda 14 3 13,
   zX 15 3 12 14 4,
   asg 4 15 4]
abbrev r72_3 : List VOp :=
  [zE 5 0 3]
abbrev r72_4 : List VOp :=
  [mv 16 5 3,
   fad 17 55 2 1,
   lda 18 22 17,
   zBM 19 18 22,
   zX 20 3 16 19 4,
   mv 21 20 4,
   zCL 22 5 3 21,
   zCC 23 55 3 1 21,
   zCG 24 22 23 21,
   zBO 25 24 22 21,
   zY 26 22 25 21,
   zCN 27 21 26]
def r72_6 : List (VOp × List Nat) := [(⟨some 30, .fieldAddr 55 (.tmp 2) 1, 0, none⟩, [2]), (⟨some 31, .load 22 (.tmp 30), 22, none⟩, [30]), (⟨some 32, .move (.tmp 5), 3, none⟩, [5]), (⟨some 33, .indexAddr 22 (.tmp 31) (.tmp 32), 0, none⟩, [31, 32]), (⟨some 34, .load 9 (.tmp 33), 9, none⟩, [33]), (⟨some 35, .fieldAddr 55 (.tmp 3) 1, 0, none⟩, [3]), (⟨some 36, .load 22 (.tmp 35), 22, none⟩, [35]), (⟨some 37, .move (.tmp 5), 3, none⟩, [5]), (⟨some 38, .indexAddr 22 (.tmp 36) (.tmp 37), 0, none⟩, [36, 37]), (⟨some 39, .load 9 (.tmp 38), 9, none⟩, [38]), (⟨some 40, .binOp .neq 9 (.tmp 34) (.tmp 39) 9, 4, none⟩, [34, 39])]
def r72_7 : List (VOp × List Nat) := [(⟨some 41, .fieldAddr 55 (.tmp 2) 1, 0, none⟩, [2]), (⟨some 42, .load 22 (.tmp 41), 22, none⟩, [41]), (⟨some 43, .move (.tmp 5), 3, none⟩, [5]), (⟨some 44, .indexAddr 22 (.tmp 42) (.tmp 43), 0, none⟩, [42, 43]), (⟨some 45, .load 9 (.tmp 44), 9, none⟩, [44]), (⟨some 46, .fieldAddr 55 (.tmp 3) 1, 0, none⟩, [3]), (⟨some 47, .load 22 (.tmp 46), 22, none⟩, [46]), (⟨some 48, .move (.tmp 5), 3, none⟩, [5]), (⟨some 49, .indexAddr 22 (.tmp 47) (.tmp 48), 0, none⟩, [47, 48]), (⟨some 50, .load 9 (.tmp 49), 9, none⟩, [49]), (⟨some 51, .binOp .lss 9 (.tmp 45) (.tmp 50) 9, 4, none⟩, [45, 50]), (⟨some 4, .assign (.tmp 51), 4, none⟩, [51])]
abbrev r72_5 : List VOp :=
  [mv 28 5 3,
   zG 29 28,
   asg 5 29 3]
abbrev r72_8 : List VOp :=
  [zC 4]
def B72 : VC :=
  (.seq (.region r72_0) (.seq (.seq (.region r72_1) (.cond (.tmp 10) (.seq (.region r72_2) .ret) .skip)) (.seq (.seq (.region r72_3) (.block 0 (.loop (.seq (.seq (.region r72_4) (.cond (.tmp 27) .skip (.exit 0))) (.seq (.block 1 (.seq (.draw (dR r72_6) 2) (.cond (.tmp 40) (.seq (.draw (dR r72_7) 3) .ret) .skip))) (.region r72_5)))))) (.seq (.region r72_8) .ret))))
theorem code72 : ∃ c, Tryz.f72.body = some c ∧ abs Tryz.f72.ntmps c = B72 := ⟨_, rfl, by kernel_rfl⟩
theorem hb72 : HasBody Tryz.prog 72 := hasBody_of Tryz.func72 (by kernel_rfl)
theorem enter72 (x0 x1 : Value) : Ent 72 B72 #[(.tmp 4)] [x0, x1] := ent code72 hb72 Tryz.func72 rfl rfl
@[push_cast] def vr72_6 := vD r72_6.eq_1 rfl 2
@[push_cast] def vr72_7 := vD r72_7.eq_1 rfl 3
/-! 73 columbary/columbaryref13.OneKey (params #[55, 55], results #[(.tmp 4)], 19 slots) -/
abbrev r73_0 : List VOp :=
  [zBF 2 55 0,
   zBF 3 55 1,
   zC 4]
abbrev r73_1 : List VOp :=
  [fad 6 55 2 1,
   lda 7 22 6,
   fad 8 55 3 1,
   lda 9 22 8,
   zBU 10 18 7 9 22 22 4,
   asg 5 10 4]
abbrev r73_2 : List VOp :=
  [mv 11 5 4,
   mv 12 11 4,
   zCC 13 55 2 0 12,
   zCG 14 3 13 12,
   zCC 15 55 3 0 12,
   zCG 16 3 15 12,
   zN 17 3 14 16 12,
   zCN 18 12 17,
   asg 4 18 4]
def B73 : VC :=
  (.seq (.region r73_0) (.seq (.region r73_1) (.seq (.region r73_2) .ret)))
theorem code73 : ∃ c, Tryz.f73.body = some c ∧ abs Tryz.f73.ntmps c = B73 := ⟨_, rfl, by kernel_rfl⟩
theorem hb73 : HasBody Tryz.prog 73 := hasBody_of Tryz.func73 (by kernel_rfl)
theorem enter73 (x0 x1 : Value) : Ent 73 B73 #[(.tmp 4)] [x0, x1] := ent code73 hb73 Tryz.func73 rfl rfl
/-! 74 columbary/columbaryref13.Join (params #[55, 55], results #[(.cell 4 55), (.tmp 5)], 67 slots) -/
@[push_cast] def W74_0 : List Nat := [5, 8, 9, 10, 36, 37, 38, 39, 40, 41, 42, 43, 44, 45, 46, 47, 48, 49, 50, 51, 52, 53, 54, 55, 56, 57, 58, 59, 60, 61, 62, 63, 64, 65]
abbrev r74_0 : List VOp :=
  [zBF 2 55 0,
   zBF 3 55 1,
   zB 4 55,
   zE 5 0 37]
abbrev r74_1 : List VOp :=
  [lda 11 55 2,
   lda 12 55 3,
   zBU 13 73 11 12 55 55 4,
   asg 6 13 4]
abbrev r74_2 : List VOp :=
  [mv 14 6 4,
   zCR 15 14]
abbrev r74_3 : List VOp :=
  [zBI 16 55,
   zA 55 4 16,
   zE 5 131 37]
abbrev r74_4 : List VOp :=
  [fad 17 55 2 2,
   lda 18 3 17,
   fad 19 55 3 2,
   lda 20 3 19,
   zH 21 18 20,
   zQ 22 21 1048576]
abbrev r74_5 : List VOp :=
  [zBI 23 55,
   zA 55 4 23,
   zE 5 121 37]
def r74_6 : List (VOp × List Nat) := [(⟨some 24, .fieldAddr 55 (.tmp 2) 0, 0, none⟩, [2]), (⟨some 25, .load 3 (.tmp 24), 3, none⟩, [24]), (⟨some 26, .buildSlice 22 0 #[], 22, none⟩, []), (⟨some 27, .fieldAddr 55 (.tmp 2) 1, 0, none⟩, [2]), (⟨some 28, .load 22 (.tmp 27), 22, none⟩, [27]), (⟨some 29, .call ⟨.builtin .append, #[.tmp 26, .tmp 28], #[22, 22]⟩, 22, none⟩, [26, 28]), (⟨some 30, .fieldAddr 55 (.tmp 2) 2, 0, none⟩, [2]), (⟨some 31, .load 3 (.tmp 30), 3, none⟩, [30]), (⟨some 32, .fieldAddr 55 (.tmp 3) 2, 0, none⟩, [3]), (⟨some 33, .load 3 (.tmp 32), 3, none⟩, [32]), (⟨some 34, .binOp .add 3 (.tmp 31) (.tmp 33) 3, 3, none⟩, [31, 33]), (⟨some 35, .build 55 #[(0, (.tmp 25)), (1, (.tmp 29)), (2, (.tmp 34))], 55, none⟩, [25, 29, 34]), (⟨some 7, .alloc 55, 0, none⟩, []), (⟨none, .store 55 (.tmp 7) (.tmp 35), 0, none⟩, [7, 35])]
abbrev r74_7 : List VOp :=
  [zE 8 0 3]
abbrev r74_8 : List VOp :=
  [mv 36 8 3,
   fad 37 55 2 3,
   lda 38 53 37,
   zBM 39 38 53,
   zX 40 3 36 39 4]
def r74_10 : List (VOp × List Nat) := [(⟨some 44, .fieldAddr 55 (.tmp 2) 3, 0, none⟩, [2]), (⟨some 45, .load 53 (.tmp 44), 53, none⟩, [44]), (⟨some 46, .move (.tmp 8), 3, none⟩, [8]), (⟨some 47, .indexAddr 53 (.tmp 45) (.tmp 46), 0, none⟩, [45, 46]), (⟨some 48, .load 52 (.tmp 47), 52, none⟩, [47]), (⟨some 49, .fieldAddr 55 (.tmp 3) 3, 0, none⟩, [3]), (⟨some 50, .load 53 (.tmp 49), 53, none⟩, [49]), (⟨some 51, .move (.tmp 8), 3, none⟩, [8]), (⟨some 52, .indexAddr 53 (.tmp 50) (.tmp 51), 0, none⟩, [50, 51]), (⟨some 53, .load 52 (.tmp 52), 52, none⟩, [52]), (⟨some 54, .call ⟨.value (.func 117), #[.tmp 48, .tmp 53], #[52, 52]⟩, 130, none⟩, [48, 53]), (⟨some 43, .move (.tmp 54), 130, none⟩, [54]), (⟨some 55, .extract (.tmp 43) 0, 52, none⟩, [43]), (⟨some 56, .extract (.tmp 43) 1, 37, none⟩, [43]), (⟨some 9, .alloc 52, 0, none⟩, []), (⟨none, .store 52 (.tmp 9) (.tmp 55), 0, none⟩, [9, 55]), (⟨some 10, .assign (.tmp 56), 37, none⟩, [56])]
abbrev r74_11 : List VOp :=
  [mv 57 10 37,
   zBA 58 37 57]
abbrev r74_12 : List VOp :=
  [zBI 59 55,
   zA 55 4 59,
   zE 5 121 37]
abbrev r74_13 : List VOp :=
  [fad 60 55 7 3,
   lda 61 53 60,
   lda 62 52 9,
   zBJ 63 53 62,
   zBL 64 61 63 53,
   fad 65 55 7 3,
   zA 53 65 64]
abbrev r74_9 : List VOp :=
  [mv 41 8 3,
   zG 42 41,
   asg 8 42 3]
abbrev r74_14 : List VOp :=
  [lda 66 55 7,
   zA 55 4 66,
   zE 5 0 37]
def B74 : VC :=
  (.seq (.region r74_0) (.seq (.region r74_1) (.seq (.seq (.region r74_2) (.cond (.tmp 15) (.seq (.region r74_3) .ret) .skip)) (.seq (.seq (.region r74_4) (.cond (.tmp 22) (.seq (.region r74_5) .ret) .skip)) (.seq (.draw (dR r74_6) 2) (.seq (.seq (.region r74_7) (.block 0 (.loop (.seq (.seq (.region r74_8) (.cond (.tmp 40) .skip (.exit 0))) (.seq (.block 1 (.seq (.drawS (dR r74_10) 2 [56]) (.seq (.seq (.region r74_11) (.cond (.tmp 58) (.seq (.region r74_12) .ret) .skip)) (.region r74_13)))) (.region r74_9)))))) (.seq (.region r74_14) .ret)))))))
theorem code74 : ∃ c, Tryz.f74.body = some c ∧ abs Tryz.f74.ntmps c = B74 := ⟨_, rfl, by kernel_rfl⟩
theorem hb74 : HasBody Tryz.prog 74 := hasBody_of Tryz.func74 (by kernel_rfl)
theorem enter74 (x0 x1 : Value) : Ent 74 B74 #[(.cell 4 55), (.tmp 5)] [x0, x1] := ent code74 hb74 Tryz.func74 rfl rfl
@[push_cast] def vr74_6 := vD r74_6.eq_1 rfl 2
@[push_cast] def vr74_10 := vS r74_10.eq_1 rfl 2 [56]
/-! 75 columbary/columbaryref12.Same (params #[53, 53], results #[(.tmp 4)], 26 slots) -/
@[push_cast] def W75_0 : List Nat := [4, 5, 11, 12, 13, 14, 15, 16, 17, 18, 19, 20, 21, 22, 23, 24, 25]
abbrev r75_0 : List VOp :=
  [zC 4]
abbrev r75_1 : List VOp :=
  [mv 6 0 53,
   zBM 7 6 53,
   mv 8 1 53,
   zBM 9 8 53,
   zBB 10 3 7 9]
abbrev r75_2 : List VOp :=
  [zC 4]
abbrev r75_3 : List VOp :=
  [zE 5 0 3]
abbrev r75_4 : List VOp :=
  [mv 11 5 3,
   mv 12 0 53,
   zBM 13 12 53,
   zX 14 3 11 13 4]
def r75_6 : List (VOp × List Nat) := [(⟨some 17, .move (.tmp 0), 53, none⟩, [0]), (⟨some 18, .move (.tmp 5), 3, none⟩, [5]), (⟨some 19, .indexAddr 53 (.tmp 17) (.tmp 18), 0, none⟩, [17, 18]), (⟨some 20, .load 52 (.tmp 19), 52, none⟩, [19]), (⟨some 21, .move (.tmp 1), 53, none⟩, [1]), (⟨some 22, .move (.tmp 5), 3, none⟩, [5]), (⟨some 23, .indexAddr 53 (.tmp 21) (.tmp 22), 0, none⟩, [21, 22]), (⟨some 24, .load 52 (.tmp 23), 52, none⟩, [23]), (⟨some 25, .binOp .neq 52 (.tmp 20) (.tmp 24) 52, 4, none⟩, [20, 24])]
abbrev r75_7 : List VOp :=
  [zC 4]
abbrev r75_5 : List VOp :=
  [mv 15 5 3,
   zG 16 15,
   asg 5 16 3]
abbrev r75_8 : List VOp :=
  [zD 4]
def B75 : VC :=
  (.seq (.region r75_0) (.seq (.seq (.region r75_1) (.cond (.tmp 10) (.seq (.region r75_2) .ret) .skip)) (.seq (.seq (.region r75_3) (.block 0 (.loop (.seq (.seq (.region r75_4) (.cond (.tmp 14) .skip (.exit 0))) (.seq (.block 1 (.seq (.draw (dR r75_6) 2) (.cond (.tmp 25) (.seq (.region r75_7) .ret) .skip))) (.region r75_5)))))) (.seq (.region r75_8) .ret))))
theorem code75 : ∃ c, Tryz.f75.body = some c ∧ abs Tryz.f75.ntmps c = B75 := ⟨_, rfl, by kernel_rfl⟩
theorem hb75 : HasBody Tryz.prog 75 := hasBody_of Tryz.func75 (by kernel_rfl)
theorem enter75 (x0 x1 : Value) : Ent 75 B75 #[(.tmp 4)] [x0, x1] := ent code75 hb75 Tryz.func75 rfl rfl
@[push_cast] def vr75_6 := vD r75_6.eq_1 rfl 2
/-! 104 columbary/columbaryref12.Right (params #[52], results #[(.tmp 2)], 29 slots) -/
abbrev r104_0 : List VOp :=
  [zBF 1 52 0,
   zC 2]
abbrev r104_1 : List VOp :=
  [fad 6 52 1 0,
   lda 7 3 6,
   zBW 8 129 7 3 4,
   asg 3 8 4]
abbrev r104_2 : List VOp :=
  [fad 9 52 1 1,
   lda 10 3 9,
   zBW 11 129 10 3 4,
   asg 4 11 4]
abbrev r104_3 : List VOp :=
  [fad 12 52 1 2,
   lda 13 3 12,
   zBW 14 129 13 3 4,
   asg 5 14 4]
abbrev r104_4 : List VOp :=
  [mv 15 3 4,
   mv 16 15 4,
   zCL 17 4 4 16,
   zCN 18 16 17,
   mv 19 18 4,
   zCL 20 5 4 19,
   zCN 21 19 20,
   mv 22 21 4,
   zCC 23 52 1 1 22,
   zCG 24 3 23 22,
   zCC 25 52 1 2 22,
   zCG 26 3 25 22,
   zV 27 24 26 22,
   zCN 28 22 27,
   asg 2 28 4]
def B104 : VC :=
  (.seq (.region r104_0) (.seq (.region r104_1) (.seq (.region r104_2) (.seq (.region r104_3) (.seq (.region r104_4) .ret)))))
theorem code104 : ∃ c, Tryz.f104.body = some c ∧ abs Tryz.f104.ntmps c = B104 := ⟨_, rfl, by kernel_rfl⟩
theorem hb104 : HasBody Tryz.prog 104 := hasBody_of Tryz.func104 (by kernel_rfl)
theorem enter104 (x0 : Value) : Ent 104 B104 #[(.tmp 2)] [x0] := ent code104 hb104 Tryz.func104 rfl rfl
/-! 111 slices.Values[[]columbary/api.Row,columbary/api.Row] (params #[33], results #[(.tmp 2)], 4 slots) -/
abbrev r111_0 : List VOp :=
  [zBF 1 33 0,
   ⟨some 2, .assign (.const .nilFunc), 124, none⟩]
abbrev r111_1 : List VOp :=
  [zCI 3 136 1 123,
   asg 2 3 124]
def B111 : VC :=
  (.seq (.region r111_0) (.seq (.region r111_1) .ret))
theorem code111 : ∃ c, Tryz.f111.body = some c ∧ abs Tryz.f111.ntmps c = B111 := ⟨_, rfl, by kernel_rfl⟩
theorem hb111 : HasBody Tryz.prog 111 := hasBody_of Tryz.func111 (by kernel_rfl)
theorem enter111 (x0 : Value) : Ent 111 B111 #[(.tmp 2)] [x0] := ent code111 hb111 Tryz.func111 rfl rfl
/-! 112 columbary/rows.own (params #[55], results #[(.cell 2 55)], 12 slots) -/
abbrev r112_0 : List VOp :=
  [zBF 1 55 0,
   zB 2 55]
def r112_1 : List (VOp × List Nat) := [(⟨some 3, .fieldAddr 55 (.tmp 1) 1, 0, none⟩, [1]), (⟨some 4, .load 22 (.tmp 3), 22, none⟩, [3]), (⟨some 5, .call ⟨.value (.func 50), #[.tmp 4], #[22]⟩, 22, none⟩, [4]), (⟨some 6, .fieldAddr 55 (.tmp 1) 3, 0, none⟩, [1]), (⟨some 7, .load 53 (.tmp 6), 53, none⟩, [6]), (⟨some 8, .call ⟨.value (.func 137), #[.tmp 7], #[53]⟩, 53, none⟩, [7]), (⟨some 9, .fieldAddr 55 (.tmp 1) 1, 0, none⟩, [1]), (⟨none, .store 22 (.tmp 9) (.tmp 5), 0, none⟩, [9, 5]), (⟨some 10, .fieldAddr 55 (.tmp 1) 3, 0, none⟩, [1]), (⟨none, .store 53 (.tmp 10) (.tmp 8), 0, none⟩, [10, 8])]
abbrev r112_2 : List VOp :=
  [lda 11 55 1,
   zA 55 2 11]
def B112 : VC :=
  (.seq (.region r112_0) (.seq (.draw (dR r112_1) 4) (.seq (.region r112_2) .ret)))
theorem code112 : ∃ c, Tryz.f112.body = some c ∧ abs Tryz.f112.ntmps c = B112 := ⟨_, rfl, by kernel_rfl⟩
theorem hb112 : HasBody Tryz.prog 112 := hasBody_of Tryz.func112 (by kernel_rfl)
theorem enter112 (x0 : Value) : Ent 112 B112 #[(.cell 2 55)] [x0] := ent code112 hb112 Tryz.func112 rfl rfl
@[push_cast] def vr112_1 := vD r112_1.eq_1 rfl 4
/-! 116 columbary/agg.Join (params #[52, 52], results #[(.cell 4 52), (.tmp 5)], 56 slots) -/
abbrev r116_0 : List VOp :=
  [zBF 2 52 0,
   zBF 3 52 1,
   zB 4 52,
   zE 5 0 37]
abbrev r116_1 : List VOp :=
  [lda 6 52 2,
   zBW 7 141 6 52 4,
   zCR 8 7,
   mv 9 8 4,
   zCF 10 52 3 9,
   zBX 11 141 10 52 9,
   zCS 12 11 9,
   zCM 13 9 12]
abbrev r116_2 : List VOp :=
  [zBI 14 52,
   zA 52 4 14,
   zE 5 1 37]
abbrev r116_3 : List VOp :=
  [fad 15 52 2 0,
   lda 16 3 15,
   zQ 17 16 0,
   mv 18 17 4,
   zCC 19 52 3 0 18,
   zCG 20 3 19 18,
   zCC 21 52 2 0 18,
   zCG 22 3 21 18,
   ⟨some 23, .binOp .sub 3 (.const (.int .i64 4611686018427387904)) (.tmp 22) 3, 3, some (18, true)⟩,
   ⟨some 24, .binOp .gtr 3 (.tmp 20) (.tmp 23) 3, 4, some (18, true)⟩,
   zCN 25 18 24,
   mv 26 25 4,
   zCB 27 52 2 0 26,
   zCF 28 3 27 26,
   ⟨some 29, .binOp .lss 3 (.tmp 28) (.const (.int .i64 0)) 3, 4, some (26, false)⟩,
   zCK 30 29 4 26,
   zCC 31 52 3 0 30,
   zCG 32 3 31 30,
   zCC 33 52 2 0 30,
   zCG 34 3 33 30,
   ⟨some 35, .binOp .sub 3 (.const (.int .i64 (-4611686018427387904))) (.tmp 34) 3, 3, some (30, true)⟩,
   zY 36 32 35 30,
   zCO 37 30 36 26,
   zCM 38 26 37]
abbrev r116_4 : List VOp :=
  [zBI 39 52,
   zA 52 4 39,
   zE 5 121 37]
abbrev r116_5 : List VOp :=
  [fad 40 52 2 0,
   lda 41 3 40,
   fad 42 52 3 0,
   lda 43 3 42,
   zH 44 41 43,
   fad 45 52 2 1,
   lda 46 3 45,
   fad 47 52 3 1,
   lda 48 3 47,
   zBQ 49 46 48 3,
   fad 50 52 2 2,
   lda 51 3 50,
   fad 52 52 3 2,
   lda 53 3 52,
   zBP 54 51 53,
   ⟨some 55, .build 52 #[(0, (.tmp 44)), (1, (.tmp 49)), (2, (.tmp 54))], 52, none⟩,
   zA 52 4 55,
   zE 5 0 37]
def B116 : VC :=
  (.seq (.region r116_0) (.seq (.seq (.region r116_1) (.cond (.tmp 13) (.seq (.region r116_2) .ret) .skip)) (.seq (.seq (.region r116_3) (.cond (.tmp 38) (.seq (.region r116_4) .ret) .skip)) (.seq (.region r116_5) .ret))))
theorem code116 : ∃ c, Tryz.f116.body = some c ∧ abs Tryz.f116.ntmps c = B116 := ⟨_, rfl, by kernel_rfl⟩
theorem hb116 : HasBody Tryz.prog 116 := hasBody_of Tryz.func116 (by kernel_rfl)
theorem enter116 (x0 x1 : Value) : Ent 116 B116 #[(.cell 4 52), (.tmp 5)] [x0, x1] := ent code116 hb116 Tryz.func116 rfl rfl
/-! 117 columbary/columbaryref12.Join (params #[52, 52], results #[(.cell 4 52), (.tmp 5)], 60 slots) -/
abbrev r117_0 : List VOp :=
  [zBF 2 52 0,
   zBF 3 52 1,
   zB 4 52,
   zE 5 0 37]
abbrev r117_1 : List VOp :=
  [lda 8 52 2,
   zBW 9 104 8 52 4,
   asg 6 9 4]
abbrev r117_2 : List VOp :=
  [lda 10 52 3,
   zBW 11 104 10 52 4,
   asg 7 11 4]
abbrev r117_3 : List VOp :=
  [mv 12 6 4,
   zCR 13 12,
   mv 14 13 4,
   zCK 15 7 4 14,
   zCS 16 15 14,
   zCM 17 14 16]
abbrev r117_4 : List VOp :=
  [zBI 18 52,
   zA 52 4 18,
   zE 5 1 37]
abbrev r117_5 : List VOp :=
  [fad 19 52 3 0,
   lda 20 3 19,
   zQ 21 20 0,
   mv 22 21 4,
   zCC 23 52 2 0 22,
   zCG 24 3 23 22,
   zCC 25 52 3 0 22,
   zCG 26 3 25 22,
   ⟨some 27, .binOp .sub 3 (.const (.int .i64 4611686018427387904)) (.tmp 26) 3, 3, some (22, true)⟩,
   ⟨some 28, .binOp .gtr 3 (.tmp 24) (.tmp 27) 3, 4, some (22, true)⟩,
   zCN 29 22 28,
   mv 30 29 4,
   zCB 31 52 3 0 30,
   zCF 32 3 31 30,
   ⟨some 33, .binOp .lss 3 (.tmp 32) (.const (.int .i64 0)) 3, 4, some (30, false)⟩,
   zCK 34 33 4 30,
   zCC 35 52 2 0 34,
   zCG 36 3 35 34,
   zCC 37 52 3 0 34,
   zCG 38 3 37 34,
   ⟨some 39, .binOp .sub 3 (.const (.int .i64 (-4611686018427387904))) (.tmp 38) 3, 3, some (34, true)⟩,
   zY 40 36 39 34,
   zCO 41 34 40 30,
   zCM 42 30 41]
abbrev r117_6 : List VOp :=
  [zBI 43 52,
   zA 52 4 43,
   zE 5 121 37]
abbrev r117_7 : List VOp :=
  [fad 44 52 2 0,
   lda 45 3 44,
   fad 46 52 3 0,
   lda 47 3 46,
   zH 48 45 47,
   fad 49 52 2 1,
   lda 50 3 49,
   fad 51 52 3 1,
   lda 52 3 51,
   zBQ 53 50 52 3,
   fad 54 52 2 2,
   lda 55 3 54,
   fad 56 52 3 2,
   lda 57 3 56,
   zBP 58 55 57,
   ⟨some 59, .build 52 #[(0, (.tmp 48)), (1, (.tmp 53)), (2, (.tmp 58))], 52, none⟩,
   zA 52 4 59,
   zE 5 0 37]
def B117 : VC :=
  (.seq (.region r117_0) (.seq (.region r117_1) (.seq (.region r117_2) (.seq (.seq (.region r117_3) (.cond (.tmp 17) (.seq (.region r117_4) .ret) .skip)) (.seq (.seq (.region r117_5) (.cond (.tmp 42) (.seq (.region r117_6) .ret) .skip)) (.seq (.region r117_7) .ret))))))
theorem code117 : ∃ c, Tryz.f117.body = some c ∧ abs Tryz.f117.ntmps c = B117 := ⟨_, rfl, by kernel_rfl⟩
theorem hb117 : HasBody Tryz.prog 117 := hasBody_of Tryz.func117 (by kernel_rfl)
theorem enter117 (x0 x1 : Value) : Ent 117 B117 #[(.cell 4 52), (.tmp 5)] [x0, x1] := ent code117 hb117 Tryz.func117 rfl rfl
/-! 129 columbary/columbaryref12.fits (params #[3], results #[(.tmp 2)], 9 slots) -/
abbrev r129_0 : List VOp :=
  [zC 2]
abbrev r129_1 : List VOp :=
  [mv 3 0 3,
   ⟨some 4, .binOp .geq 3 (.tmp 3) (.const (.int .i64 (-4611686018427387904))) 3, 4, none⟩,
   mv 5 4 4,
   zCL 6 0 3 5,
   zT 7 3 6 4611686018427387904 5,
   zCN 8 5 7,
   asg 2 8 4]
def B129 : VC :=
  (.seq (.region r129_0) (.seq (.region r129_1) .ret))
theorem code129 : ∃ c, Tryz.f129.body = some c ∧ abs Tryz.f129.ntmps c = B129 := ⟨_, rfl, by kernel_rfl⟩
theorem hb129 : HasBody Tryz.prog 129 := hasBody_of Tryz.func129 (by kernel_rfl)
theorem enter129 (x0 : Value) : Ent 129 B129 #[(.tmp 2)] [x0] := ent code129 hb129 Tryz.func129 rfl rfl
/-! 136 slices.Values[[]columbary/api.Row,columbary/api.Row]$1 (params #[142], results #[], 16 slots) -/
@[push_cast] def W136_0 : List Nat := [4, 7, 8, 9, 10, 11, 12, 13, 14, 15]
abbrev r136_0 : List VOp :=
  [lda 5 33 1,
   zBM 6 5 33,
   zCJ 7]
abbrev r136_1 : List VOp :=
  [zX 8 3 7 6 0]
abbrev r136_2 : List VOp :=
  [iad 9 33 5 7,
   lda 10 55 9,
   zB 4 55,
   zA 55 4 10]
abbrev r136_3 : List VOp :=
  [mv 11 0 142,
   lda 12 55 4,
   zBZ 13 11 12 55 4,
   zCR 14 13]
abbrev r136_4 : List VOp :=
  [zG 15 7,
   mv 7 15 3]
def B136 : VC :=
  (.seq (.region r136_0) (.block 0 (.loop (.seq (.region r136_1) (.seq (.cond (.tmp 8) .skip (.exit 0)) (.seq (.block 1 (.seq (.region r136_2) (.seq (.region r136_3) (.cond (.tmp 14) .ret .skip)))) (.region r136_4)))))))
theorem code136 : ∃ c, Tryz.f136.body = some c ∧ abs Tryz.f136.ntmps c = B136 := ⟨_, rfl, by kernel_rfl⟩
theorem hb136 : HasBody Tryz.prog 136 := hasBody_of Tryz.func136 (by kernel_rfl)
theorem enter136 (x0 x1 : Value) : Ent 136 B136 #[] [x0, x1] := ent code136 hb136 Tryz.func136 rfl rfl
/-! 137 slices.Clone[[]columbary/api.Agg,columbary/api.Agg] (params #[53], results #[(.tmp 2)], 8 slots) -/
abbrev r137_0 : List VOp :=
  [zF 2 53]
abbrev r137_1 : List VOp :=
  [mv 3 0 53,
   ⟨some 4, .binOp .eql 53 (.tmp 3) (.const (.slice none 0 0)) 53, 4, none⟩]
abbrev r137_2 : List VOp :=
  [zF 2 53]
abbrev r137_3 : List VOp :=
  [zBK 5 53,
   mv 6 0 53,
   zBL 7 5 6 53,
   asg 2 7 53]
def B137 : VC :=
  (.seq (.region r137_0) (.seq (.seq (.region r137_1) (.cond (.tmp 4) (.seq (.region r137_2) .ret) .skip)) (.seq (.region r137_3) .ret)))
theorem code137 : ∃ c, Tryz.f137.body = some c ∧ abs Tryz.f137.ntmps c = B137 := ⟨_, rfl, by kernel_rfl⟩
theorem hb137 : HasBody Tryz.prog 137 := hasBody_of Tryz.func137 (by kernel_rfl)
theorem enter137 (x0 : Value) : Ent 137 B137 #[(.tmp 2)] [x0] := ent code137 hb137 Tryz.func137 rfl rfl
/-! 141 columbary/agg.Right (params #[52], results #[(.tmp 2)], 18 slots) -/
abbrev r141_0 : List VOp :=
  [zBF 1 52 0,
   zC 2]
abbrev r141_1 : List VOp :=
  [fad 3 52 1 0,
   lda 4 3 3,
   fad 5 52 1 1,
   lda 6 3 5,
   fad 7 52 1 2,
   lda 8 3 7,
   ⟨some 9, .buildSlice 59 3 #[(0, (.tmp 4)), (1, (.tmp 6)), (2, (.tmp 8))], 59, none⟩,
   zBW 10 150 9 59 4,
   mv 11 10 4,
   zCC 12 52 1 1 11,
   zCG 13 3 12 11,
   zCC 14 52 1 2 11,
   zCG 15 3 14 11,
   zV 16 13 15 11,
   zCN 17 11 16,
   asg 2 17 4]
def B141 : VC :=
  (.seq (.region r141_0) (.seq (.region r141_1) .ret))
theorem code141 : ∃ c, Tryz.f141.body = some c ∧ abs Tryz.f141.ntmps c = B141 := ⟨_, rfl, by kernel_rfl⟩
theorem hb141 : HasBody Tryz.prog 141 := hasBody_of Tryz.func141 (by kernel_rfl)
theorem enter141 (x0 : Value) : Ent 141 B141 #[(.tmp 2)] [x0] := ent code141 hb141 Tryz.func141 rfl rfl
/-! 150 columbary/agg.fits (params #[59], results #[(.tmp 2)], 18 slots) -/
@[push_cast] def W150_0 : List Nat := [2, 4, 7, 8, 9, 10, 11, 12, 13, 14, 15, 16, 17]
abbrev r150_0 : List VOp :=
  [zC 2]
abbrev r150_1 : List VOp :=
  [mv 5 0 59,
   zBM 6 5 59,
   zCJ 7]
abbrev r150_2 : List VOp :=
  [zX 8 3 7 6 0]
abbrev r150_3 : List VOp :=
  [iad 9 59 5 7,
   lda 10 3 9,
   asg 4 10 3]
abbrev r150_4 : List VOp :=
  [mv 11 4 3,
   ⟨some 12, .binOp .lss 3 (.tmp 11) (.const (.int .i64 (-4611686018427387904))) 3, 4, none⟩,
   mv 13 12 4,
   zCK 14 4 3 13,
   zR 15 14 4611686018427387904 13,
   zCM 16 13 15]
abbrev r150_5 : List VOp :=
  [zC 2]
abbrev r150_6 : List VOp :=
  [zG 17 7,
   mv 7 17 3]
abbrev r150_7 : List VOp :=
  [zD 2]
def B150 : VC :=
  (.seq (.region r150_0) (.seq (.seq (.region r150_1) (.block 0 (.loop (.seq (.region r150_2) (.seq (.cond (.tmp 8) .skip (.exit 0)) (.seq (.block 1 (.seq (.region r150_3) (.seq (.region r150_4) (.cond (.tmp 16) (.seq (.region r150_5) .ret) .skip)))) (.region r150_6))))))) (.seq (.region r150_7) .ret)))
theorem code150 : ∃ c, Tryz.f150.body = some c ∧ abs Tryz.f150.ntmps c = B150 := ⟨_, rfl, by kernel_rfl⟩
theorem hb150 : HasBody Tryz.prog 150 := hasBody_of Tryz.func150 (by kernel_rfl)
theorem enter150 (x0 : Value) : Ent 150 B150 #[(.tmp 2)] [x0] := ent code150 hb150 Tryz.func150 rfl rfl
@[push_cast] theorem bsl22_0_CodesA {K : Value → World → Prop} {w : World}  : vBuildSlice Tryz.prog 22 0 #[] K w = K (.slice (some ⟨w.heap.size, 0, none⟩) 0 0) (w.alloc (.cells #[] 9)) :=
  vBuildSlice_ok Tryz.underlying22 ti9 (by kernel_rfl) (by decide)
@[push_cast] theorem bsl33_0_CodesA {K : Value → World → Prop} {w : World}  : vBuildSlice Tryz.prog 33 0 #[] K w = K (.slice (some ⟨w.heap.size, 0, none⟩) 0 0) (w.alloc (.cells #[] 55)) :=
  vBuildSlice_ok Tryz.underlying33 ti55 (by kernel_rfl) (by decide)
@[push_cast] theorem bsl33_1_CodesA {K : Value → World → Prop} {w : World} (x00 x01 x02 x03 : Value) : vBuildSlice Tryz.prog 33 1 #[(0, (.agg #[x00, x01, x02, x03]))] K w = K (.slice (some ⟨w.heap.size, 0, none⟩) 1 1) (w.alloc (.cells #[x00, x01, x02, x03] 55)) :=
  vBuildSlice_ok Tryz.underlying33 ti55 (by kernel_rfl) (by decide)
@[push_cast] theorem bsl53_0_CodesA {K : Value → World → Prop} {w : World}  : vBuildSlice Tryz.prog 53 0 #[] K w = K (.slice (some ⟨w.heap.size, 0, none⟩) 0 0) (w.alloc (.cells #[] 52)) :=
  vBuildSlice_ok Tryz.underlying53 ti52 (by kernel_rfl) (by decide)
@[push_cast] theorem bsl53_1_CodesA {K : Value → World → Prop} {w : World} (x00 x01 x02 : Value) : vBuildSlice Tryz.prog 53 1 #[(0, (.agg #[x00, x01, x02]))] K w = K (.slice (some ⟨w.heap.size, 0, none⟩) 1 1) (w.alloc (.cells #[x00, x01, x02] 52)) :=
  vBuildSlice_ok Tryz.underlying53 ti52 (by kernel_rfl) (by decide)
@[push_cast] theorem bsl59_2_CodesA {K : Value → World → Prop} {w : World} (x0 : Int) (x1 : Int) : vBuildSlice Tryz.prog 59 2 #[(0, (.int .i64 x0)), (1, (.int .i64 x1))] K w = K (.slice (some ⟨w.heap.size, 0, none⟩) 2 2) (w.alloc (.cells #[(.int .i64 x0), (.int .i64 x1)] 3)) :=
  vBuildSlice_ok Tryz.underlying59 ti3 (by kernel_rfl) (by decide)
@[push_cast] theorem bsl59_3_CodesA {K : Value → World → Prop} {w : World} (x0 : Int) (x1 : Int) (x2 : Int) : vBuildSlice Tryz.prog 59 3 #[(0, (.int .i64 x0)), (1, (.int .i64 x1)), (2, (.int .i64 x2))] K w = K (.slice (some ⟨w.heap.size, 0, none⟩) 3 3) (w.alloc (.cells #[(.int .i64 x0), (.int .i64 x1), (.int .i64 x2)] 3)) :=
  vBuildSlice_ok Tryz.underlying59 ti3 (by kernel_rfl) (by decide)
@[push_cast] theorem bld52__CodesA {K : Value → World → Prop} {w : World}  : vBuild Tryz.prog 52 #[] K w = K (.agg #[(.int .i64 0), (.int .i64 0), (.int .i64 0)]) w :=
  vBuild_ok (by kernel_rfl)
@[push_cast] theorem bld52_0_1_2_CodesA {K : Value → World → Prop} {w : World} (x0 : Int) (x1 : Int) (x2 : Int) : vBuild Tryz.prog 52 #[(0, (.int .i64 x0)), (1, (.int .i64 x1)), (2, (.int .i64 x2))] K w = K (.agg #[(.int .i64 x0), (.int .i64 x1), (.int .i64 x2)]) w :=
  vBuild_ok (by kernel_rfl)
@[push_cast] theorem bld55__CodesA {K : Value → World → Prop} {w : World}  : vBuild Tryz.prog 55 #[] K w = K (.agg #[(.int .i64 0), (.slice none 0 0), (.int .i64 0), (.slice none 0 0)]) w :=
  vBuild_ok (by kernel_rfl)
@[push_cast] theorem bld55_0_1_2_CodesA {K : Value → World → Prop} {w : World} (x0 : Int) (x1o : Option Addr) (x1n x1c : Nat) (x2 : Int) : vBuild Tryz.prog 55 #[(0, (.int .i64 x0)), (1, (.slice x1o x1n x1c)), (2, (.int .i64 x2))] K w = K (.agg #[(.int .i64 x0), (.slice x1o x1n x1c), (.int .i64 x2), (.slice none 0 0)]) w :=
  vBuild_ok (by kernel_rfl)
end Go.Proofs.YtnofalhkapmcnaaGreat
end
section
namespace Go.Proofs.YtnofalhkapmcnaaGreat
open Go.Vc
set_option maxRecDepth 100000
variable (Q : Post) (ds : List Deferred) (σ : Env) (w : World)
/-! 69 slices.SortStableFunc[[]columbary/api.Row,columbary/api.Row] (params #[33, 95], results #[], 9 slots) -/
abbrev r69_0 : List VOp :=
  [mv 4 0 33,
   mv 5 0 33,
   zBM 6 5 33,
   mv 7 1 95,
   zBT 8 113 4 6 7 33 3 95 0]
def B69 : VC :=
  (.region r69_0)
theorem code69 : ∃ c, Tryz.f69.body = some c ∧ abs Tryz.f69.ntmps c = B69 := ⟨_, rfl, by kernel_rfl⟩
theorem hb69 : HasBody Tryz.prog 69 := hasBody_of Tryz.func69 (by kernel_rfl)
theorem enter69 (x0 x1 : Value) : Ent 69 B69 #[] [x0, x1] := ent code69 hb69 Tryz.func69 rfl rfl
/-! 113 slices.stableCmpFunc[columbary/api.Row] (params #[33, 3, 95], results #[], 63 slots) -/
@[push_cast] def W113_0 : List Nat := [7, 8, 11, 12, 13, 14, 15, 16, 17, 18, 19, 20, 21, 22]
@[push_cast] def W113_1 : List Nat := [6, 7, 8, 9, 28, 29, 30, 31, 32, 33, 34, 35, 36, 37, 38, 39, 40, 41, 42, 43, 44, 45, 46, 47, 48, 49, 50, 51, 52, 53, 54, 55, 56, 57, 58, 59, 60, 61, 62]
@[push_cast] def W113_2 : List Nat := [7, 8, 33, 34, 35, 36, 37, 38, 39, 40, 41, 42, 43, 44, 45, 46, 47, 48]
abbrev r113_0 : List VOp :=
  [zE 6 20 3]
abbrev r113_1 : List VOp :=
  [mv 10 6 3,
   zE 7 0 3,
   asg 8 10 3]
abbrev r113_2 : List VOp :=
  [mv 11 8 3,
   mv 12 1 3,
   zU 13 11 12]
abbrev r113_3 : List VOp :=
  [mv 14 0 33,
   mv 15 7 3,
   mv 16 8 3,
   mv 17 2 95,
   zBS 18 138 14 15 16 17 33 95]
abbrev r113_4 : List VOp :=
  [mv 19 8 3,
   asg 7 19 3]
abbrev r113_5 : List VOp :=
  [mv 20 8 3,
   mv 21 6 3,
   zH 22 20 21,
   asg 8 22 3]
abbrev r113_6 : List VOp :=
  [mv 23 0 33,
   mv 24 7 3,
   mv 25 1 3,
   mv 26 2 95,
   zBS 27 138 23 24 25 26 33 95]
abbrev r113_7 : List VOp :=
  [mv 28 6 3,
   mv 29 1 3,
   zX 30 3 28 29 4]
abbrev r113_8 : List VOp :=
  [mv 31 6 3,
   zZ 32 31,
   zE 7 0 3,
   asg 8 32 3]
abbrev r113_9 : List VOp :=
  [mv 33 8 3,
   mv 34 1 3,
   zU 35 33 34]
abbrev r113_10 : List VOp :=
  [mv 36 0 33,
   mv 37 7 3,
   mv 38 7 3,
   mv 39 6 3,
   zH 40 38 39,
   mv 41 8 3,
   mv 42 2 95,
   zBR 43 139 36 37 40 41 42 33 95]
abbrev r113_11 : List VOp :=
  [mv 44 8 3,
   asg 7 44 3]
abbrev r113_12 : List VOp :=
  [mv 45 8 3,
   mv 46 6 3,
   zZ 47 46,
   zH 48 45 47,
   asg 8 48 3]
abbrev r113_13 : List VOp :=
  [mv 49 7 3,
   mv 50 6 3,
   zH 51 49 50,
   asg 9 51 3]
abbrev r113_14 : List VOp :=
  [mv 52 9 3,
   mv 53 1 3,
   zX 54 3 52 53 4]
abbrev r113_15 : List VOp :=
  [mv 55 0 33,
   mv 56 7 3,
   mv 57 9 3,
   mv 58 1 3,
   mv 59 2 95,
   zBR 60 139 55 56 57 58 59 33 95]
abbrev r113_16 : List VOp :=
  [mv 61 6 3,
   ⟨some 62, .binOp .mul 3 (.tmp 61) (.const (.int .i64 2)) 3, 3, none⟩,
   asg 6 62 3]
def B113 : VC :=
  (.seq (.region r113_0) (.seq (.region r113_1) (.seq (.block 0 (.loop (.seq (.seq (.region r113_2) (.cond (.tmp 13) .skip (.exit 0))) (.block 1 (.seq (.region r113_3) (.seq (.region r113_4) (.region r113_5))))))) (.seq (.region r113_6) (.block 2 (.loop (.seq (.seq (.region r113_7) (.cond (.tmp 30) .skip (.exit 2))) (.block 3 (.seq (.region r113_8) (.seq (.block 4 (.loop (.seq (.seq (.region r113_9) (.cond (.tmp 35) .skip (.exit 4))) (.block 5 (.seq (.region r113_10) (.seq (.region r113_11) (.region r113_12))))))) (.seq (.seq (.region r113_13) (.seq (.region r113_14) (.cond (.tmp 54) (.region r113_15) .skip))) (.region r113_16))))))))))))
theorem code113 : ∃ c, Tryz.f113.body = some c ∧ abs Tryz.f113.ntmps c = B113 := ⟨_, rfl, by kernel_rfl⟩
theorem hb113 : HasBody Tryz.prog 113 := hasBody_of Tryz.func113 (by kernel_rfl)
theorem enter113 (x0 x1 x2 : Value) : Ent 113 B113 #[] [x0, x1, x2] := ent code113 hb113 Tryz.func113 rfl rfl
/-! 138 slices.insertionSortCmpFunc[columbary/api.Row] (params #[33, 3, 3, 95], results #[], 53 slots) -/
@[push_cast] def W138_0 : List Nat := [8, 9, 12, 13, 14, 15, 16, 17, 18, 19, 20, 21, 22, 23, 24, 25, 26, 27, 28, 29, 30, 31, 32, 33, 34, 35, 36, 37, 38, 39, 40, 41, 42, 43, 44, 45, 46, 47, 48, 49, 50, 51, 52]
@[push_cast] def W138_1 : List Nat := [9, 18, 19, 20, 21, 22, 23, 24, 25, 26, 27, 28, 29, 30, 31, 32, 33, 34, 35, 36, 37, 38, 39, 40, 41, 42, 43, 44, 45, 46, 47, 48, 49, 50, 51, 52]
abbrev r138_0 : List VOp :=
  [mv 10 1 3,
   zG 11 10,
   asg 8 11 3]
abbrev r138_1 : List VOp :=
  [mv 12 8 3,
   mv 13 2 3,
   zX 14 3 12 13 4]
abbrev r138_3 : List VOp :=
  [mv 17 8 3,
   asg 9 17 3]
def r138_4 : List (VOp × List Nat) := [(⟨some 18, .move (.tmp 9), 3, none⟩, [9]), (⟨some 19, .move (.tmp 1), 3, none⟩, [1]), (⟨some 20, .binOp .gtr 3 (.tmp 18) (.tmp 19) 3, 4, none⟩, [18, 19]), (⟨some 21, .move (.tmp 20), 4, none⟩, [20]), (⟨some 22, .move (.tmp 3), 95, some (21, true)⟩, [3, 21]), (⟨some 23, .move (.tmp 0), 33, some (21, true)⟩, [0, 21]), (⟨some 24, .move (.tmp 9), 3, some (21, true)⟩, [9, 21]), (⟨some 25, .indexAddr 33 (.tmp 23) (.tmp 24), 0, some (21, true)⟩, [23, 24, 21]), (⟨some 26, .load 55 (.tmp 25), 55, some (21, true)⟩, [25, 21]), (⟨some 27, .move (.tmp 0), 33, some (21, true)⟩, [0, 21]), (⟨some 28, .move (.tmp 9), 3, some (21, true)⟩, [9, 21]), (⟨some 29, .binOp .sub 3 (.tmp 28) (.const (.int .i64 1)) 3, 3, some (21, true)⟩, [28, 21]), (⟨some 30, .indexAddr 33 (.tmp 27) (.tmp 29), 0, some (21, true)⟩, [27, 29, 21]), (⟨some 31, .load 55 (.tmp 30), 55, some (21, true)⟩, [30, 21]), (⟨some 32, .call ⟨.value (.tmp 22), #[.tmp 26, .tmp 31], #[55, 55]⟩, 3, some (21, true)⟩, [22, 26, 31, 21]), (⟨some 33, .binOp .lss 3 (.tmp 32) (.const (.int .i64 0)) 3, 4, some (21, true)⟩, [32, 21]), (⟨some 34, .pick (.tmp 21) (.tmp 33) (.const (.bool false)), 4, none⟩, [21, 33])]
def r138_6 : List (VOp × List Nat) := [(⟨some 37, .move (.tmp 0), 33, none⟩, [0]), (⟨some 38, .move (.tmp 9), 3, none⟩, [9]), (⟨some 39, .move (.tmp 0), 33, none⟩, [0]), (⟨some 40, .move (.tmp 9), 3, none⟩, [9]), (⟨some 41, .binOp .sub 3 (.tmp 40) (.const (.int .i64 1)) 3, 3, none⟩, [40]), (⟨some 42, .move (.tmp 0), 33, none⟩, [0]), (⟨some 43, .move (.tmp 9), 3, none⟩, [9]), (⟨some 44, .binOp .sub 3 (.tmp 43) (.const (.int .i64 1)) 3, 3, none⟩, [43]), (⟨some 45, .indexAddr 33 (.tmp 42) (.tmp 44), 0, none⟩, [42, 44]), (⟨some 46, .load 55 (.tmp 45), 55, none⟩, [45]), (⟨some 47, .move (.tmp 0), 33, none⟩, [0]), (⟨some 48, .move (.tmp 9), 3, none⟩, [9]), (⟨some 49, .indexAddr 33 (.tmp 47) (.tmp 48), 0, none⟩, [47, 48]), (⟨some 50, .load 55 (.tmp 49), 55, none⟩, [49]), (⟨some 51, .indexAddr 33 (.tmp 37) (.tmp 38), 0, none⟩, [37, 38]), (⟨none, .store 55 (.tmp 51) (.tmp 46), 0, none⟩, [51, 46]), (⟨some 52, .indexAddr 33 (.tmp 39) (.tmp 41), 0, none⟩, [39, 41]), (⟨none, .store 55 (.tmp 52) (.tmp 50), 0, none⟩, [52, 50])]
abbrev r138_5 : List VOp :=
  [mv 35 9 3,
   zBD 36 35,
   asg 9 36 3]
abbrev r138_2 : List VOp :=
  [mv 15 8 3,
   zG 16 15,
   asg 8 16 3]
def B138 : VC :=
  (.seq (.region r138_0) (.block 0 (.loop (.seq (.seq (.region r138_1) (.cond (.tmp 14) .skip (.exit 0))) (.seq (.block 1 (.seq (.region r138_3) (.block 2 (.loop (.seq (.seq (.draw (dR r138_4) 4) (.cond (.tmp 34) .skip (.exit 2))) (.seq (.block 3 (.drawS (dR r138_6) 3 [39, 40, 41])) (.region r138_5))))))) (.region r138_2))))))
theorem code138 : ∃ c, Tryz.f138.body = some c ∧ abs Tryz.f138.ntmps c = B138 := ⟨_, rfl, by kernel_rfl⟩
theorem hb138 : HasBody Tryz.prog 138 := hasBody_of Tryz.func138 (by kernel_rfl)
theorem enter138 (x0 x1 x2 x3 : Value) : Ent 138 B138 #[] [x0, x1, x2, x3] := ent code138 hb138 Tryz.func138 rfl rfl
@[push_cast] def vr138_4 := vD r138_4.eq_1 rfl 4
@[push_cast] def vr138_6 := vS r138_6.eq_1 rfl 3 [39, 40, 41]
/-! 139 slices.symMergeCmpFunc[columbary/api.Row] (params #[33, 3, 3, 3, 95], results #[], 220 slots) -/
@[push_cast] def W139_0 : List Nat := [10, 11, 12, 31, 32, 33, 34, 35, 36, 37, 38, 39, 40, 41, 42, 43, 44, 45, 46, 47, 48, 49, 50, 51, 52, 53]
@[push_cast] def W139_1 : List Nat := [13, 55, 56, 57, 58, 59, 60, 61, 62, 63, 64, 65, 66, 67, 68, 69, 70, 71, 72, 73, 74, 75, 76]
@[push_cast] def W139_2 : List Nat := [14, 15, 16, 83, 84, 85, 86, 87, 88, 89, 90, 91, 92, 93, 94, 95, 96, 97, 98, 99, 100, 101, 102, 103, 104, 105, 106]
@[push_cast] def W139_3 : List Nat := [17, 108, 109, 110, 111, 112, 113, 114, 115, 116, 117, 118, 119, 120, 121, 122, 123, 124, 125, 126, 127, 128]
@[push_cast] def W139_4 : List Nat := [20, 21, 23, 149, 150, 151, 152, 153, 154, 155, 156, 157, 158, 159, 160, 161, 162, 163, 164, 165, 166, 167, 168, 169, 170, 171, 172, 173, 174]
abbrev r139_0 : List VOp :=
  [mv 25 2 3,
   mv 26 1 3,
   zBE 27 25 26,
   zI 28 3 27 1]
abbrev r139_1 : List VOp :=
  [mv 29 2 3,
   asg 10 29 3]
abbrev r139_2 : List VOp :=
  [mv 30 3 3,
   asg 11 30 3]
abbrev r139_3 : List VOp :=
  [mv 31 10 3,
   mv 32 11 3,
   zX 33 3 31 32 4]
abbrev r139_4 : List VOp :=
  [mv 34 10 3,
   mv 35 11 3,
   zH 36 34 35,
   zCA 37 3 150 36,
   zBC 38 37,
   zCA 39 150 3 38,
   asg 12 39 3]
def r139_5 : List (VOp × List Nat) := [(⟨some 40, .move (.tmp 4), 95, none⟩, [4]), (⟨some 41, .move (.tmp 0), 33, none⟩, [0]), (⟨some 42, .move (.tmp 12), 3, none⟩, [12]), (⟨some 43, .indexAddr 33 (.tmp 41) (.tmp 42), 0, none⟩, [41, 42]), (⟨some 44, .load 55 (.tmp 43), 55, none⟩, [43]), (⟨some 45, .move (.tmp 0), 33, none⟩, [0]), (⟨some 46, .move (.tmp 1), 3, none⟩, [1]), (⟨some 47, .indexAddr 33 (.tmp 45) (.tmp 46), 0, none⟩, [45, 46]), (⟨some 48, .load 55 (.tmp 47), 55, none⟩, [47]), (⟨some 49, .call ⟨.value (.tmp 40), #[.tmp 44, .tmp 48], #[55, 55]⟩, 3, none⟩, [40, 44, 48]), (⟨some 50, .binOp .lss 3 (.tmp 49) (.const (.int .i64 0)) 3, 4, none⟩, [49])]
abbrev r139_6 : List VOp :=
  [mv 51 12 3,
   zG 52 51,
   asg 10 52 3]
abbrev r139_7 : List VOp :=
  [mv 53 12 3,
   asg 11 53 3]
abbrev r139_8 : List VOp :=
  [mv 54 1 3,
   asg 13 54 3]
abbrev r139_9 : List VOp :=
  [mv 55 13 3,
   mv 56 10 3,
   zBD 57 56,
   zX 58 3 55 57 4]
def r139_11 : List (VOp × List Nat) := [(⟨some 61, .move (.tmp 0), 33, none⟩, [0]), (⟨some 62, .move (.tmp 13), 3, none⟩, [13]), (⟨some 63, .move (.tmp 0), 33, none⟩, [0]), (⟨some 64, .move (.tmp 13), 3, none⟩, [13]), (⟨some 65, .binOp .add 3 (.tmp 64) (.const (.int .i64 1)) 3, 3, none⟩, [64]), (⟨some 66, .move (.tmp 0), 33, none⟩, [0]), (⟨some 67, .move (.tmp 13), 3, none⟩, [13]), (⟨some 68, .binOp .add 3 (.tmp 67) (.const (.int .i64 1)) 3, 3, none⟩, [67]), (⟨some 69, .indexAddr 33 (.tmp 66) (.tmp 68), 0, none⟩, [66, 68]), (⟨some 70, .load 55 (.tmp 69), 55, none⟩, [69]), (⟨some 71, .move (.tmp 0), 33, none⟩, [0]), (⟨some 72, .move (.tmp 13), 3, none⟩, [13]), (⟨some 73, .indexAddr 33 (.tmp 71) (.tmp 72), 0, none⟩, [71, 72]), (⟨some 74, .load 55 (.tmp 73), 55, none⟩, [73]), (⟨some 75, .indexAddr 33 (.tmp 61) (.tmp 62), 0, none⟩, [61, 62]), (⟨none, .store 55 (.tmp 75) (.tmp 70), 0, none⟩, [75, 70]), (⟨some 76, .indexAddr 33 (.tmp 63) (.tmp 65), 0, none⟩, [63, 65]), (⟨none, .store 55 (.tmp 76) (.tmp 74), 0, none⟩, [76, 74])]
abbrev r139_10 : List VOp :=
  [mv 59 13 3,
   zG 60 59,
   asg 13 60 3]
abbrev r139_12 : List VOp :=
  [mv 77 3 3,
   mv 78 2 3,
   zBE 79 77 78,
   zI 80 3 79 1]
abbrev r139_13 : List VOp :=
  [mv 81 1 3,
   asg 14 81 3]
abbrev r139_14 : List VOp :=
  [mv 82 2 3,
   asg 15 82 3]
abbrev r139_15 : List VOp :=
  [mv 83 14 3,
   mv 84 15 3,
   zX 85 3 83 84 4]
abbrev r139_16 : List VOp :=
  [mv 86 14 3,
   mv 87 15 3,
   zH 88 86 87,
   zCA 89 3 150 88,
   zBC 90 89,
   zCA 91 150 3 90,
   asg 16 91 3]
def r139_17 : List (VOp × List Nat) := [(⟨some 92, .move (.tmp 4), 95, none⟩, [4]), (⟨some 93, .move (.tmp 0), 33, none⟩, [0]), (⟨some 94, .move (.tmp 2), 3, none⟩, [2]), (⟨some 95, .indexAddr 33 (.tmp 93) (.tmp 94), 0, none⟩, [93, 94]), (⟨some 96, .load 55 (.tmp 95), 55, none⟩, [95]), (⟨some 97, .move (.tmp 0), 33, none⟩, [0]), (⟨some 98, .move (.tmp 16), 3, none⟩, [16]), (⟨some 99, .indexAddr 33 (.tmp 97) (.tmp 98), 0, none⟩, [97, 98]), (⟨some 100, .load 55 (.tmp 99), 55, none⟩, [99]), (⟨some 101, .call ⟨.value (.tmp 92), #[.tmp 96, .tmp 100], #[55, 55]⟩, 3, none⟩, [92, 96, 100]), (⟨some 102, .binOp .lss 3 (.tmp 101) (.const (.int .i64 0)) 3, 4, none⟩, [101]), (⟨some 103, .unOp .not 4 (.tmp 102), 4, none⟩, [102])]
abbrev r139_18 : List VOp :=
  [mv 104 16 3,
   zG 105 104,
   asg 14 105 3]
abbrev r139_19 : List VOp :=
  [mv 106 16 3,
   asg 15 106 3]
abbrev r139_20 : List VOp :=
  [mv 107 2 3,
   asg 17 107 3]
abbrev r139_21 : List VOp :=
  [mv 108 17 3,
   mv 109 14 3,
   zS 110 3 108 109]
def r139_23 : List (VOp × List Nat) := [(⟨some 113, .move (.tmp 0), 33, none⟩, [0]), (⟨some 114, .move (.tmp 17), 3, none⟩, [17]), (⟨some 115, .move (.tmp 0), 33, none⟩, [0]), (⟨some 116, .move (.tmp 17), 3, none⟩, [17]), (⟨some 117, .binOp .sub 3 (.tmp 116) (.const (.int .i64 1)) 3, 3, none⟩, [116]), (⟨some 118, .move (.tmp 0), 33, none⟩, [0]), (⟨some 119, .move (.tmp 17), 3, none⟩, [17]), (⟨some 120, .binOp .sub 3 (.tmp 119) (.const (.int .i64 1)) 3, 3, none⟩, [119]), (⟨some 121, .indexAddr 33 (.tmp 118) (.tmp 120), 0, none⟩, [118, 120]), (⟨some 122, .load 55 (.tmp 121), 55, none⟩, [121]), (⟨some 123, .move (.tmp 0), 33, none⟩, [0]), (⟨some 124, .move (.tmp 17), 3, none⟩, [17]), (⟨some 125, .indexAddr 33 (.tmp 123) (.tmp 124), 0, none⟩, [123, 124]), (⟨some 126, .load 55 (.tmp 125), 55, none⟩, [125]), (⟨some 127, .indexAddr 33 (.tmp 113) (.tmp 114), 0, none⟩, [113, 114]), (⟨none, .store 55 (.tmp 127) (.tmp 122), 0, none⟩, [127, 122]), (⟨some 128, .indexAddr 33 (.tmp 115) (.tmp 117), 0, none⟩, [115, 117]), (⟨none, .store 55 (.tmp 128) (.tmp 126), 0, none⟩, [128, 126])]
abbrev r139_22 : List VOp :=
  [mv 111 17 3,
   zBD 112 111,
   asg 17 112 3]
abbrev r139_24 : List VOp :=
  [mv 129 1 3,
   mv 130 3 3,
   zH 131 129 130,
   zCA 132 3 150 131,
   zBC 133 132,
   zCA 134 150 3 133,
   asg 18 134 3]
abbrev r139_25 : List VOp :=
  [mv 135 18 3,
   mv 136 2 3,
   zH 137 135 136,
   asg 19 137 3]
abbrev r139_26 : List VOp :=
  [zE 20 0 3,
   zE 21 0 3]
abbrev r139_27 : List VOp :=
  [mv 138 2 3,
   mv 139 18 3,
   zS 140 3 138 139]
abbrev r139_28 : List VOp :=
  [mv 141 19 3,
   mv 142 3 3,
   zBE 143 141 142,
   asg 20 143 3]
abbrev r139_29 : List VOp :=
  [mv 144 18 3,
   asg 21 144 3]
abbrev r139_30 : List VOp :=
  [mv 145 1 3,
   asg 20 145 3]
abbrev r139_31 : List VOp :=
  [mv 146 2 3,
   asg 21 146 3]
abbrev r139_32 : List VOp :=
  [mv 147 19 3,
   zBD 148 147,
   asg 22 148 3]
abbrev r139_33 : List VOp :=
  [mv 149 20 3,
   mv 150 21 3,
   zX 151 3 149 150 4]
abbrev r139_34 : List VOp :=
  [mv 152 20 3,
   mv 153 21 3,
   zH 154 152 153,
   zCA 155 3 150 154,
   zBC 156 155,
   zCA 157 150 3 156,
   asg 23 157 3]
def r139_35 : List (VOp × List Nat) := [(⟨some 158, .move (.tmp 4), 95, none⟩, [4]), (⟨some 159, .move (.tmp 0), 33, none⟩, [0]), (⟨some 160, .move (.tmp 22), 3, none⟩, [22]), (⟨some 161, .move (.tmp 23), 3, none⟩, [23]), (⟨some 162, .binOp .sub 3 (.tmp 160) (.tmp 161) 3, 3, none⟩, [160, 161]), (⟨some 163, .indexAddr 33 (.tmp 159) (.tmp 162), 0, none⟩, [159, 162]), (⟨some 164, .load 55 (.tmp 163), 55, none⟩, [163]), (⟨some 165, .move (.tmp 0), 33, none⟩, [0]), (⟨some 166, .move (.tmp 23), 3, none⟩, [23]), (⟨some 167, .indexAddr 33 (.tmp 165) (.tmp 166), 0, none⟩, [165, 166]), (⟨some 168, .load 55 (.tmp 167), 55, none⟩, [167]), (⟨some 169, .call ⟨.value (.tmp 158), #[.tmp 164, .tmp 168], #[55, 55]⟩, 3, none⟩, [158, 164, 168]), (⟨some 170, .binOp .lss 3 (.tmp 169) (.const (.int .i64 0)) 3, 4, none⟩, [169]), (⟨some 171, .unOp .not 4 (.tmp 170), 4, none⟩, [170])]
abbrev r139_36 : List VOp :=
  [mv 172 23 3,
   zG 173 172,
   asg 20 173 3]
abbrev r139_37 : List VOp :=
  [mv 174 23 3,
   asg 21 174 3]
abbrev r139_38 : List VOp :=
  [mv 175 19 3,
   mv 176 20 3,
   zBE 177 175 176,
   asg 24 177 3]
abbrev r139_39 : List VOp :=
  [mv 178 20 3,
   mv 179 2 3,
   zX 180 3 178 179 4,
   mv 181 180 4,
   zCL 182 2 3 181,
   zCL 183 24 3 181,
   zY 184 182 183 181,
   zCN 185 181 184]
abbrev r139_40 : List VOp :=
  [mv 186 0 33,
   mv 187 20 3,
   mv 188 2 3,
   mv 189 24 3,
   mv 190 4 95,
   zBR 191 148 186 187 188 189 190 33 95]
abbrev r139_41 : List VOp :=
  [mv 192 1 3,
   mv 193 20 3,
   zX 194 3 192 193 4,
   mv 195 194 4,
   zCL 196 20 3 195,
   zCL 197 18 3 195,
   zY 198 196 197 195,
   zCN 199 195 198]
abbrev r139_42 : List VOp :=
  [mv 200 0 33,
   mv 201 1 3,
   mv 202 20 3,
   mv 203 18 3,
   mv 204 4 95,
   zBR 205 139 200 201 202 203 204 33 95]
abbrev r139_43 : List VOp :=
  [mv 206 18 3,
   mv 207 24 3,
   zX 208 3 206 207 4,
   mv 209 208 4,
   zCL 210 24 3 209,
   zCL 211 3 3 209,
   zY 212 210 211 209,
   zCN 213 209 212]
abbrev r139_44 : List VOp :=
  [mv 214 0 33,
   mv 215 18 3,
   mv 216 24 3,
   mv 217 3 3,
   mv 218 4 95,
   zBR 219 139 214 215 216 217 218 33 95]
def B139 : VC :=
  (.seq (.seq (.region r139_0) (.cond (.tmp 28) (.seq (.region r139_1) (.seq (.region r139_2) (.seq (.block 0 (.loop (.seq (.seq (.region r139_3) (.cond (.tmp 33) .skip (.exit 0))) (.block 1 (.seq (.region r139_4) (.seq (.draw (dR r139_5) 3) (.cond (.tmp 50) (.region r139_6) (.region r139_7)))))))) (.seq (.seq (.region r139_8) (.block 2 (.loop (.seq (.seq (.region r139_9) (.cond (.tmp 58) .skip (.exit 2))) (.seq (.block 3 (.drawS (dR r139_11) 3 [63, 64, 65])) (.region r139_10)))))) .ret)))) .skip)) (.seq (.seq (.region r139_12) (.cond (.tmp 80) (.seq (.region r139_13) (.seq (.region r139_14) (.seq (.block 4 (.loop (.seq (.seq (.region r139_15) (.cond (.tmp 85) .skip (.exit 4))) (.block 5 (.seq (.region r139_16) (.seq (.draw (dR r139_17) 4) (.cond (.tmp 103) (.region r139_18) (.region r139_19)))))))) (.seq (.seq (.region r139_20) (.block 6 (.loop (.seq (.seq (.region r139_21) (.cond (.tmp 110) .skip (.exit 6))) (.seq (.block 7 (.drawS (dR r139_23) 3 [115, 116, 117])) (.region r139_22)))))) .ret)))) .skip)) (.seq (.region r139_24) (.seq (.region r139_25) (.seq (.region r139_26) (.seq (.seq (.region r139_27) (.cond (.tmp 140) (.seq (.region r139_28) (.region r139_29)) (.seq (.region r139_30) (.region r139_31)))) (.seq (.region r139_32) (.seq (.block 8 (.loop (.seq (.seq (.region r139_33) (.cond (.tmp 151) .skip (.exit 8))) (.block 9 (.seq (.region r139_34) (.seq (.draw (dR r139_35) 4) (.cond (.tmp 171) (.region r139_36) (.region r139_37)))))))) (.seq (.region r139_38) (.seq (.seq (.region r139_39) (.cond (.tmp 185) (.region r139_40) .skip)) (.seq (.seq (.region r139_41) (.cond (.tmp 199) (.region r139_42) .skip)) (.seq (.region r139_43) (.cond (.tmp 213) (.region r139_44) .skip)))))))))))))
theorem code139 : ∃ c, Tryz.f139.body = some c ∧ abs Tryz.f139.ntmps c = B139 := ⟨_, rfl, by kernel_rfl⟩
theorem hb139 : HasBody Tryz.prog 139 := hasBody_of Tryz.func139 (by kernel_rfl)
theorem enter139 (x0 x1 x2 x3 x4 : Value) : Ent 139 B139 #[] [x0, x1, x2, x3, x4] := ent code139 hb139 Tryz.func139 rfl rfl
@[push_cast] def vr139_5 := vD r139_5.eq_1 rfl 3
@[push_cast] def vr139_11 := vS r139_11.eq_1 rfl 3 [63, 64, 65]
@[push_cast] def vr139_17 := vD r139_17.eq_1 rfl 4
@[push_cast] def vr139_23 := vS r139_23.eq_1 rfl 3 [115, 116, 117]
@[push_cast] def vr139_35 := vD r139_35.eq_1 rfl 4
/-! 148 slices.rotateCmpFunc[columbary/api.Row] (params #[33, 3, 3, 3, 95], results #[], 58 slots) -/
@[push_cast] def W148_0 : List Nat := [10, 11, 18, 19, 20, 21, 22, 23, 24, 25, 26, 27, 28, 29, 30, 31, 32, 33, 34, 35, 36, 37, 38, 39, 40, 41, 42, 43, 44, 45, 46, 47, 48, 49]
abbrev r148_0 : List VOp :=
  [mv 12 2 3,
   mv 13 1 3,
   zBE 14 12 13,
   asg 10 14 3]
abbrev r148_1 : List VOp :=
  [mv 15 3 3,
   mv 16 2 3,
   zBE 17 15 16,
   asg 11 17 3]
abbrev r148_2 : List VOp :=
  [mv 18 10 3,
   mv 19 11 3,
   zBB 20 3 18 19]
abbrev r148_3 : List VOp :=
  [mv 21 10 3,
   mv 22 11 3,
   zS 23 3 21 22]
abbrev r148_4 : List VOp :=
  [mv 24 0 33,
   mv 25 2 3,
   mv 26 10 3,
   zBE 27 25 26,
   mv 28 2 3,
   mv 29 11 3,
   mv 30 4 95,
   zBR 31 168 24 27 28 29 30 33 95]
abbrev r148_5 : List VOp :=
  [mv 32 10 3,
   mv 33 11 3,
   zBE 34 32 33,
   asg 10 34 3]
abbrev r148_6 : List VOp :=
  [mv 35 0 33,
   mv 36 2 3,
   mv 37 10 3,
   zBE 38 36 37,
   mv 39 2 3,
   mv 40 11 3,
   zH 41 39 40,
   mv 42 10 3,
   zBE 43 41 42,
   mv 44 10 3,
   mv 45 4 95,
   zBR 46 168 35 38 43 44 45 33 95]
abbrev r148_7 : List VOp :=
  [mv 47 11 3,
   mv 48 10 3,
   zBE 49 47 48,
   asg 11 49 3]
abbrev r148_8 : List VOp :=
  [mv 50 0 33,
   mv 51 2 3,
   mv 52 10 3,
   zBE 53 51 52,
   mv 54 2 3,
   mv 55 10 3,
   mv 56 4 95,
   zBR 57 168 50 53 54 55 56 33 95]
def B148 : VC :=
  (.seq (.region r148_0) (.seq (.region r148_1) (.seq (.block 0 (.loop (.seq (.seq (.region r148_2) (.cond (.tmp 20) .skip (.exit 0))) (.block 1 (.seq (.region r148_3) (.cond (.tmp 23) (.seq (.region r148_4) (.region r148_5)) (.seq (.region r148_6) (.region r148_7)))))))) (.region r148_8))))
theorem code148 : ∃ c, Tryz.f148.body = some c ∧ abs Tryz.f148.ntmps c = B148 := ⟨_, rfl, by kernel_rfl⟩
theorem hb148 : HasBody Tryz.prog 148 := hasBody_of Tryz.func148 (by kernel_rfl)
theorem enter148 (x0 x1 x2 x3 x4 : Value) : Ent 148 B148 #[] [x0, x1, x2, x3, x4] := ent code148 hb148 Tryz.func148 rfl rfl
/-! 168 slices.swapRangeCmpFunc[columbary/api.Row] (params #[33, 3, 3, 3, 95], results #[], 38 slots) -/
@[push_cast] def W168_0 : List Nat := [10, 11, 12, 13, 14, 15, 16, 17, 18, 19, 20, 21, 22, 23, 24, 25, 26, 27, 28, 29, 30, 31, 32, 33, 34, 35, 36, 37]
abbrev r168_0 : List VOp :=
  [zE 10 0 3]
abbrev r168_1 : List VOp :=
  [mv 11 10 3,
   mv 12 3 3,
   zX 13 3 11 12 4]
def r168_3 : List (VOp × List Nat) := [(⟨some 16, .move (.tmp 0), 33, none⟩, [0]), (⟨some 17, .move (.tmp 1), 3, none⟩, [1]), (⟨some 18, .move (.tmp 10), 3, none⟩, [10]), (⟨some 19, .binOp .add 3 (.tmp 17) (.tmp 18) 3, 3, none⟩, [17, 18]), (⟨some 20, .move (.tmp 0), 33, none⟩, [0]), (⟨some 21, .move (.tmp 2), 3, none⟩, [2]), (⟨some 22, .move (.tmp 10), 3, none⟩, [10]), (⟨some 23, .binOp .add 3 (.tmp 21) (.tmp 22) 3, 3, none⟩, [21, 22]), (⟨some 24, .move (.tmp 0), 33, none⟩, [0]), (⟨some 25, .move (.tmp 2), 3, none⟩, [2]), (⟨some 26, .move (.tmp 10), 3, none⟩, [10]), (⟨some 27, .binOp .add 3 (.tmp 25) (.tmp 26) 3, 3, none⟩, [25, 26]), (⟨some 28, .indexAddr 33 (.tmp 24) (.tmp 27), 0, none⟩, [24, 27]), (⟨some 29, .load 55 (.tmp 28), 55, none⟩, [28]), (⟨some 30, .move (.tmp 0), 33, none⟩, [0]), (⟨some 31, .move (.tmp 1), 3, none⟩, [1]), (⟨some 32, .move (.tmp 10), 3, none⟩, [10]), (⟨some 33, .binOp .add 3 (.tmp 31) (.tmp 32) 3, 3, none⟩, [31, 32]), (⟨some 34, .indexAddr 33 (.tmp 30) (.tmp 33), 0, none⟩, [30, 33]), (⟨some 35, .load 55 (.tmp 34), 55, none⟩, [34]), (⟨some 36, .indexAddr 33 (.tmp 16) (.tmp 19), 0, none⟩, [16, 19]), (⟨none, .store 55 (.tmp 36) (.tmp 29), 0, none⟩, [36, 29]), (⟨some 37, .indexAddr 33 (.tmp 20) (.tmp 23), 0, none⟩, [20, 23]), (⟨none, .store 55 (.tmp 37) (.tmp 35), 0, none⟩, [37, 35])]
abbrev r168_2 : List VOp :=
  [mv 14 10 3,
   zG 15 14,
   asg 10 15 3]
def B168 : VC :=
  (.seq (.region r168_0) (.block 0 (.loop (.seq (.seq (.region r168_1) (.cond (.tmp 13) .skip (.exit 0))) (.seq (.block 1 (.drawS (dR r168_3) 3 [20, 21, 22, 23])) (.region r168_2))))))
theorem code168 : ∃ c, Tryz.f168.body = some c ∧ abs Tryz.f168.ntmps c = B168 := ⟨_, rfl, by kernel_rfl⟩
theorem hb168 : HasBody Tryz.prog 168 := hasBody_of Tryz.func168 (by kernel_rfl)
theorem enter168 (x0 x1 x2 x3 x4 : Value) : Ent 168 B168 #[] [x0, x1, x2, x3, x4] := ent code168 hb168 Tryz.func168 rfl rfl
@[push_cast] def vr168_3 := vS r168_3.eq_1 rfl 3 [20, 21, 22, 23]
end Go.Proofs.YtnofalhkapmcnaaGreat
end
section
set_option linter.unusedSimpArgs false
namespace Go.Vc
open Go.RowKit
theorem resK_cells {P : Program} {R : Value → World → Prop} {σ : Env} {w : World} {a s : Nat} {t : TypeId} {rs : List ResultVar} {acc l : List Value} {ad : Addr} (ha : σ a = .pointer (some ad)) (hA : aggD P t (P.underlying t) = some s) (hl : cellsAt w ad s = some l)
    (hR : resK P rs (acc ++ [.agg l.toArray]) σ R w) : resK P (.cell a t :: rs) acc σ R w := by
  unfold resK
  rw [ha]
  obtain ⟨h1, h2⟩ := run_isAgg_yes hA w
  exact ⟨.agg l.toArray, by simp [loadVar, h1, run_sizeOf h2, run_loadCells' hl], hR⟩
theorem box3 (w : World) (a b c : Value) (e : TypeId) : (w.alloc (.cells #[a, b, c] e)).cell? ⟨w.heap.size, 0, none⟩ = some a ∧ (w.alloc (.cells #[a, b, c] e)).cell? ⟨w.heap.size, 1, none⟩ = some b ∧ (w.alloc (.cells #[a, b, c] e)).cell? ⟨w.heap.size, 2, none⟩ = some c ∧ cellsAt (w.alloc (.cells #[a, b, c] e)) ⟨w.heap.size, 0, none⟩ 3 = some [a, b, c] :=
  ⟨(Blk.new w #[a, b, c] e).cell 0, (Blk.new w #[a, b, c] e).cell 1, (Blk.new w #[a, b, c] e).cell 2, Blk.cellsAt (l := [a, b, c]) (Blk.new w #[a, b, c] e)⟩
theorem run_triple {P : Program} {t : TypeId} {f0 f1 f2 : Field} (ht : P.underlying t = some (.struct #[f0, f1, f2])) (h0 : P.underlying f0.type = some (.int .i64)) (h1 : P.underlying f1.type = some (.int .i64)) (h2 : P.underlying f2.type = some (.int .i64)) (o0 : f0.offset = 0) (o1 : f1.offset = 1) (o2 : f2.offset = 2)
    (n0 : f0.name ≠ "_") (n1 : f1.name ≠ "_") (n2 : f2.name ≠ "_") (hp : P.stoodInHeld t = false) (hm : P.eqGuardType P.depth t = false) (x y : Operand) (a b c d e f : Int) (w : World) :
    (do eqGuard .neq t x y (.agg #[.int .i64 a, .int .i64 b, .int .i64 c]) (.agg #[.int .i64 d, .int .i64 e, .int .i64 f]); binOp .neq t (.agg #[.int .i64 a, .int .i64 b, .int .i64 c]) (.agg #[.int .i64 d, .int .i64 e, .int .i64 f])).run P w = .ok (.bool (!decide ((a, b, c) = (d, e, f)))) w := by
  have hf : P.fieldsOf t = #[f0, f1, f2] := by unfold Program.fieldsOf; rw [ht]
  have hs : P.underlying t = some (.struct (P.fieldsOf t)) := by rw [hf]; exact ht
  have hd : (decide ((a, b, c) = (d, e, f))) = (a == d && (b == e && c == f)) := by
    rw [Bool.eq_iff_iff]; simp
  rw [hd]
  simp only [Sem.run_bind, run_eqGuard_agg w .neq t x y _ _ hm, Result.andThen_ok, run_neq_struct, run_equalIn_agg w 9999 t _ _ hs hp, hf]
  have i0 : ∀ w' : World, (isAgg f0.type).run P w' = .ok false w' := run_isAgg (by rw [h0]; rfl)
  have i1 : ∀ w' : World, (isAgg f1.type).run P w' = .ok false w' := run_isAgg (by rw [h1]; rfl)
  have i2 : ∀ w' : World, (isAgg f2.type).run P w' = .ok false w' := run_isAgg (by rw [h2]; rfl)
  by_cases e1 : a = d <;> by_cases e2 : b = e <;> by_cases e3 : c = f <;> simp [Op.eqFields, n0, n1, n2, part, i0, i1, i2, o0, o1, o2, run_equalIn_int _ _ _ _ _ _ _ h0, run_equalIn_int _ _ _ _ _ _ _ h1, run_equalIn_int _ _ _ _ _ _ _ h2, e1, e2, e3]
end Go.Vc
namespace Go.Proofs.YtnofalhkapmcnaaGreat
open Go.Vc
set_option maxRecDepth 100000
abbrev Ag := Int × Int × Int
def agC (a : Ag) : List Value := [.int .i64 a.1, .int .i64 a.2.1, .int .i64 a.2.2]
def agV (a : Ag) : Value := .agg #[.int .i64 a.1, .int .i64 a.2.1, .int .i64 a.2.2]
theorem agC_len (a : Ag) : (agC a).length = 3 := rfl
theorem agC_one (a : Ag) : ∀ u ∈ agC a, u.oneCell' = true := by
  intro u hu
  simp only [agC, List.mem_cons, List.not_mem_nil, or_false] at hu
  rcases hu with rfl | rfl | rfl <;> rfl
abbrev AgS (w : World) (v : Value) (l : List Ag) : Prop := RecS agC 3 w v l
abbrev OwnA (w : World) (B : Nat) (v : Value) (l : List Ag) : Prop := OwnR agC 3 w B 52 v l
abbrev Fi (n : Int) : Prop := -4611686018427387904 ≤ n ∧ n ≤ 4611686018427387904
abbrev ARt (a : Ag) : Prop := Fi a.1 ∧ Fi a.2.1 ∧ Fi a.2.2 ∧ a.2.1 ≤ a.2.2
def ajn (a b : Ag) : Ag := (a.1 + b.1, min a.2.1 b.2.1, max a.2.2 b.2.2)
theorem ajn_rt {a b : Ag} (ha : ARt a) (hb : ARt b) (h : Fi (a.1 + b.1)) : ARt (ajn a b) := by
  unfold ARt Fi ajn at *
  dsimp only
  omega
def jnV (a b : Ag) : Value := if Fi (a.1 + b.1) then .tuple #[agV (ajn a b), .int .i64 0] else .tuple #[agV (0, 0, 0), .int .i64 121]
def fitb (n : Int) : Bool := decide (Fi n)
theorem afits_c (v : Value) (l : List Int) (w : World) (h : Sl w v (l.map i64v)) : FnC Tryz.prog 150 #[v] w fun r w' => r = .bool (l.all fitb) ∧ Later w w' := by
  obtain ⟨o, c, rfl, g1, g2, h, g3⟩ := h.openM
  refine enter150 _ ?_
  unfold B150
  repeat' (first | (simp (disch := omega) only [push_cast, seval]) | refine iX ?_ ?_ <;> intros | refine aI (by omega) ?_ | refine dq ?_)
  refine vc_loop W150_0 (fun i : Nat => [(2, .bool false), (7, .int .i64 (i : Int))]) (fun i w' => i ≤ l.length ∧ Later w w' ∧ (l.take i).all fitb = true) (fun i => l.length - i) 0 (by decide) ?_ ?_ ?_
  · simp (disch := omega) only [push_cast, seval]
  · exact ⟨by omega, Later.refl _, by simp⟩
  rintro i uu w1 ⟨hi, hl1, hall⟩
  by_cases hlt : i < l.length
  · obtain ⟨a, rfl⟩ := h.some hlt
    have c0 := (h.later hl1).atI hlt
    have hmem : l[i] ∈ l := List.getElem_mem _
    by_cases hf : Fi l[i]
    · have hsn : (l.take (i + 1)).all fitb = true := by rw [take_snoc l i hlt, List.all_append, hall, Bool.true_and]; simp only [List.all_cons, List.all_nil, Bool.and_true, fitb]; exact decide_eq_true hf
      generalize l[i] = x at *
      repeat' (first | (simp (disch := omega) only [push_cast, seval, c0]) | refine iX ?_ ?_ <;> intros | refine aI (by omega) ?_ | refine dq ?_)
      exact ⟨rfl, i + 1, by simp (disch := omega) only [push_cast, seval], ⟨by omega, hl1, hsn⟩, by dsimp only; omega⟩
    · have hno : l.all fitb = false := by
        rw [List.all_eq_false]
        exact ⟨_, hmem, by simp only [fitb, decide_eq_true_eq]; exact hf⟩
      generalize l[i] = x at *
      by_cases h1 : x < -4611686018427387904
      · repeat' (first | (simp (disch := omega) only [push_cast, seval, c0]) | refine iX ?_ ?_ <;> intros | refine aI (by omega) ?_ | refine dq ?_)
        simp [hno, hl1]
      · repeat' (first | (simp (disch := omega) only [push_cast, seval, c0]) | refine iX ?_ ?_ <;> intros | refine aI (by omega) ?_ | refine dq ?_)
        simp [hno, hl1]
  · have e : i = l.length := by omega
    subst e
    rw [List.take_length] at hall
    repeat' (first | (simp (disch := omega) only [push_cast, seval]) | refine iX ?_ ?_ <;> intros | refine aI (by omega) ?_ | refine dq ?_)
    simp [hall, hl1]
theorem cfits_c (n : Int) (w : World) : FnC Tryz.prog 129 #[.int .i64 n] w fun r w' => r = .bool (decide (Fi n)) ∧ Later w w' := by
  refine enter129 _ ?_
  unfold B129
  have := Later.refl w
  by_cases h1 : -4611686018427387904 ≤ n <;> by_cases h2 : n ≤ 4611686018427387904
  all_goals
    repeat' (first | (simp (disch := omega) only [push_cast, seval]) | refine iX ?_ ?_ <;> intros | refine aI (by omega) ?_ | refine dq ?_)
    all_goals simp [h1, h2, this]
theorem aright_c (a : Ag) (w : World) : FnC Tryz.prog 141 #[agV a] w fun r w' => r = .bool (decide (ARt a)) ∧ Later w w' := by
  unfold agV
  refine enter141 _ ?_
  unfold B141
  have ec : (Value.agg #[.int .i64 a.1, .int .i64 a.2.1, .int .i64 a.2.2]).cells = #[.int .i64 a.1, .int .i64 a.2.1, .int .i64 a.2.2] := rfl
  obtain ⟨c0, c1, c2, _⟩ := box3 w (.int .i64 a.1) (.int .i64 a.2.1) (.int .i64 a.2.2) 52
  have la := later_alloc w (.cells #[.int .i64 a.1, .int .i64 a.2.1, .int .i64 a.2.2] 52)
  repeat' (first | (simp (disch := omega) only [push_cast, seval, ec, c0, c1, c2, addr_add_eq, Nat.zero_add]) | refine iX ?_ ?_ <;> intros | refine aI (by omega) ?_ | refine dq ?_)
  generalize hw1 : w.alloc (.cells #[.int .i64 a.1, .int .i64 a.2.1, .int .i64 a.2.2] 52) = w1 at *
  generalize w.heap.size = k at *
  have lb := later_alloc w1 (.cells #[.int .i64 a.1, .int .i64 a.2.1, .int .i64 a.2.2] 3)
  have hsl : Sl (w1.alloc (.cells #[.int .i64 a.1, .int .i64 a.2.1, .int .i64 a.2.2] 3)) (.slice (some ⟨w1.heap.size, 0, none⟩) 3 3) (([a.1, a.2.1, a.2.2] : List Int).map i64v) :=
    Sl.of_blk (xs := [.int .i64 a.1, .int .i64 a.2.1, .int .i64 a.2.2]) (Blk.new w1 _ _) rfl (by unfold maxLen; omega)
  refine (afits_c _ _ _ hsl).mono ?_
  rintro _ w2 ⟨rfl, l2⟩
  have d1 := (lb.trans l2).cell c1
  have d2 := (lb.trans l2).cell c2
  have l02 := la.trans (lb.trans l2)
  have hv : (([a.1, a.2.1, a.2.2] : List Int).all fitb) = (decide (Fi a.1) && (decide (Fi a.2.1) && decide (Fi a.2.2))) := by simp [fitb]
  rw [hv]
  by_cases h1 : Fi a.1 ∧ Fi a.2.1 ∧ Fi a.2.2
  · obtain ⟨h1, h2, h3⟩ := h1
    rw [decide_eq_true h1, decide_eq_true h2, decide_eq_true h3, Bool.and_self, Bool.and_self]
    by_cases h4 : a.2.1 ≤ a.2.2
    · repeat' (first | (simp (disch := omega) only [push_cast, seval, d1, d2, addr_add_eq, Nat.zero_add]) | refine iX ?_ ?_ <;> intros | refine aI (by omega) ?_ | refine dq ?_)
      rw [decide_eq_true (show ARt a from ⟨h1, h2, h3, h4⟩), decide_eq_true h4]
      first | exact ⟨rfl, l02⟩ | exact l02
    · repeat' (first | (simp (disch := omega) only [push_cast, seval, d1, d2, addr_add_eq, Nat.zero_add]) | refine iX ?_ ?_ <;> intros | refine aI (by omega) ?_ | refine dq ?_)
      rw [decide_eq_false (show ¬ ARt a from fun h => h4 h.2.2.2), decide_eq_false h4]
      first | exact ⟨rfl, l02⟩ | exact l02
  · have : (decide (Fi a.1) && (decide (Fi a.2.1) && decide (Fi a.2.2))) = false := by
      rw [Bool.eq_false_iff]
      intro hh
      simp only [Bool.and_eq_true, decide_eq_true_eq] at hh
      exact h1 hh
    rw [this]
    have hno : ¬ ARt a := fun hh => h1 ⟨hh.1, hh.2.1, hh.2.2.1⟩
    repeat' (first | (simp (disch := omega) only [push_cast, seval, d1, d2, addr_add_eq, Nat.zero_add]) | refine iX ?_ ?_ <;> intros | refine aI (by omega) ?_ | refine dq ?_)
    simp [hno, l02]
theorem caright_c (a : Ag) (w : World) : FnC Tryz.prog 104 #[agV a] w fun r w' => r = .bool (decide (ARt a)) ∧ Later w w' := by
  unfold agV
  refine enter104 _ ?_
  unfold B104
  have ec : (Value.agg #[.int .i64 a.1, .int .i64 a.2.1, .int .i64 a.2.2]).cells = #[.int .i64 a.1, .int .i64 a.2.1, .int .i64 a.2.2] := rfl
  obtain ⟨c0, c1, c2, _⟩ := box3 w (.int .i64 a.1) (.int .i64 a.2.1) (.int .i64 a.2.2) 52
  have la := later_alloc w (.cells #[.int .i64 a.1, .int .i64 a.2.1, .int .i64 a.2.2] 52)
  repeat' (first | (simp (disch := omega) only [push_cast, seval, ec, c0, c1, c2, addr_add_eq, Nat.zero_add]) | refine iX ?_ ?_ <;> intros | refine aI (by omega) ?_ | refine dq ?_)
  generalize w.alloc (.cells #[.int .i64 a.1, .int .i64 a.2.1, .int .i64 a.2.2] 52) = w1 at *
  generalize w.heap.size = k at *
  refine (cfits_c _ _).mono ?_
  rintro _ w2 ⟨rfl, l2⟩
  have d1 := l2.cell c1
  have d2 := l2.cell c2
  repeat' (first | (simp (disch := omega) only [push_cast, seval, d1, d2, addr_add_eq, Nat.zero_add]) | refine iX ?_ ?_ <;> intros | refine aI (by omega) ?_ | refine dq ?_)
  refine (cfits_c _ _).mono ?_
  rintro _ w3 ⟨rfl, l3⟩
  have e1 := l3.cell d1
  have e2 := l3.cell d2
  repeat' (first | (simp (disch := omega) only [push_cast, seval, e1, e2, addr_add_eq, Nat.zero_add]) | refine iX ?_ ?_ <;> intros | refine aI (by omega) ?_ | refine dq ?_)
  refine (cfits_c _ _).mono ?_
  rintro _ w4 ⟨rfl, l4⟩
  have f1 := l4.cell e1
  have f2 := l4.cell e2
  have l04 := ((la.trans l2).trans l3).trans l4
  by_cases h1 : Fi a.1
  · by_cases h2 : Fi a.2.1
    · by_cases h3 : Fi a.2.2
      · rw [decide_eq_true h1, decide_eq_true h2, decide_eq_true h3]
        by_cases h4 : a.2.1 ≤ a.2.2
        · repeat' (first | (simp (disch := omega) only [push_cast, seval, f1, f2, addr_add_eq, Nat.zero_add]) | refine iX ?_ ?_ <;> intros | refine aI (by omega) ?_ | refine dq ?_)
          rw [decide_eq_true (show ARt a from ⟨h1, h2, h3, h4⟩), decide_eq_true h4]
          first | exact ⟨rfl, l04⟩ | exact l04
        · repeat' (first | (simp (disch := omega) only [push_cast, seval, f1, f2, addr_add_eq, Nat.zero_add]) | refine iX ?_ ?_ <;> intros | refine aI (by omega) ?_ | refine dq ?_)
          rw [decide_eq_false (show ¬ ARt a from fun h => h4 h.2.2.2), decide_eq_false h4]
          first | exact ⟨rfl, l04⟩ | exact l04
      · have hno : ¬ ARt a := fun hh => h3 hh.2.2.1
        rw [decide_eq_true h1, decide_eq_true h2, decide_eq_false h3]
        repeat' (first | (simp (disch := omega) only [push_cast, seval, f1, f2, addr_add_eq, Nat.zero_add]) | refine iX ?_ ?_ <;> intros | refine aI (by omega) ?_ | refine dq ?_)
        simp [hno, l04]
    · have hno : ¬ ARt a := fun hh => h2 hh.2.1
      rw [decide_eq_true h1, decide_eq_false h2]
      repeat' (first | (simp (disch := omega) only [push_cast, seval, f1, f2, addr_add_eq, Nat.zero_add]) | refine iX ?_ ?_ <;> intros | refine aI (by omega) ?_ | refine dq ?_)
      simp [hno, l04]
  · have hno : ¬ ARt a := fun hh => h1 hh.1
    rw [decide_eq_false h1]
    repeat' (first | (simp (disch := omega) only [push_cast, seval, f1, f2, addr_add_eq, Nat.zero_add]) | refine iX ?_ ?_ <;> intros | refine aI (by omega) ?_ | refine dq ?_)
    simp [hno, l04]
end Go.Proofs.YtnofalhkapmcnaaGreat
end
section
set_option linter.unusedSimpArgs false
namespace Go.Proofs.YtnofalhkapmcnaaGreat
open Go.Vc
set_option maxRecDepth 100000
theorem box3_later {w w' : World} {k : Nat} {a b c : Value} {e : TypeId} (h : Blk w k #[a, b, c] e) (hl : Later w w') : w'.cell? ⟨k, 0, none⟩ = some a ∧ w'.cell? ⟨k, 1, none⟩ = some b ∧ w'.cell? ⟨k, 2, none⟩ = some c ∧ cellsAt w' ⟨k, 0, none⟩ 3 = some [a, b, c] := by
  have := h.chg (Chg.of_later (ks := []) hl) (by simp)
  exact ⟨this.cell 0, this.cell 1, this.cell 2, Blk.cellsAt (l := [a, b, c]) this⟩
theorem ajoin_c (a b : Ag) (w : World) (ha : ARt a) (hb : ARt b) : FnC Tryz.prog 116 #[agV a, agV b] w fun r w' => r = jnV a b ∧ Later w w' := by
  have jt : Fi (a.1 + b.1) → jnV a b = .tuple #[agV (ajn a b), .int .i64 0] := fun h => if_pos h
  have jf : ¬ Fi (a.1 + b.1) → jnV a b = .tuple #[agV (0, 0, 0), .int .i64 121] := fun h => if_neg h
  unfold agV
  refine enter116 _ _ ?_
  unfold B116
  have eca : (Value.agg #[.int .i64 a.1, .int .i64 a.2.1, .int .i64 a.2.2]).cells = #[.int .i64 a.1, .int .i64 a.2.1, .int .i64 a.2.2] := rfl
  have ecb : (Value.agg #[.int .i64 b.1, .int .i64 b.2.1, .int .i64 b.2.2]).cells = #[.int .i64 b.1, .int .i64 b.2.1, .int .i64 b.2.2] := rfl
  have l1 := later_alloc w (.cells #[.int .i64 a.1, .int .i64 a.2.1, .int .i64 a.2.2] 52)
  have B1 := Blk.new w #[.int .i64 a.1, .int .i64 a.2.1, .int .i64 a.2.2] 52
  have s1 : (w.alloc (.cells #[.int .i64 a.1, .int .i64 a.2.1, .int .i64 a.2.2] 52)).heap.size = w.heap.size + 1 := World.size_alloc w _
  repeat' (first | (simp (disch := omega) only [push_cast, seval, eca, ecb]) | refine iX ?_ ?_ <;> intros | refine aI (by omega) ?_ | refine dq ?_)
  generalize w.alloc (.cells #[.int .i64 a.1, .int .i64 a.2.1, .int .i64 a.2.2] 52) = w1 at *
  have l2 := later_alloc w1 (.cells #[.int .i64 b.1, .int .i64 b.2.1, .int .i64 b.2.2] 52)
  have B2 := Blk.new w1 #[.int .i64 b.1, .int .i64 b.2.1, .int .i64 b.2.2] 52
  have s2 : (w1.alloc (.cells #[.int .i64 b.1, .int .i64 b.2.1, .int .i64 b.2.2] 52)).heap.size = w1.heap.size + 1 := World.size_alloc w1 _
  generalize w1.alloc (.cells #[.int .i64 b.1, .int .i64 b.2.1, .int .i64 b.2.2] 52) = w2 at *
  have l3 := later_alloc w2 (.cells #[.int .i64 0, .int .i64 0, .int .i64 0] 52)
  have B3 := Blk.new w2 #[.int .i64 0, .int .i64 0, .int .i64 0] 52
  generalize w2.alloc (.cells #[.int .i64 0, .int .i64 0, .int .i64 0] 52) = w3 at *
  have FA := fun w' (hl : Later w3 w') => box3_later B1 ((l2.trans l3).trans hl)
  have FB := fun w' (hl : Later w3 w') => box3_later B2 (l3.trans hl)
  have l03 := (l1.trans l2).trans l3
  clear l1 l2 l3 B1 B2
  obtain ⟨_, _, _, a3⟩ := FA w3 (Later.refl _)
  repeat' (first | (simp (disch := omega) only [push_cast, seval, a3]) | refine iX ?_ ?_ <;> intros | refine aI (by omega) ?_ | refine dq ?_)
  refine (aright_c a w3).mono ?_
  rintro _ w4 ⟨rfl, l4⟩
  rw [decide_eq_true ha]
  obtain ⟨_, _, _, b3⟩ := FB w4 l4
  repeat' (first | (simp (disch := omega) only [push_cast, seval, b3]) | refine iX ?_ ?_ <;> intros | refine aI (by omega) ?_ | refine dq ?_)
  refine (aright_c b w4).mono ?_
  rintro _ w5 ⟨rfl, l5⟩
  rw [decide_eq_true hb]
  have l35 := l4.trans l5
  obtain ⟨c0, c1, c2, _⟩ := FA w5 l35
  obtain ⟨d0, d1, d2, _⟩ := FB w5 l35
  have hB3 := B3.chg (Chg.of_later (ks := []) l35) (by simp)
  have hlE := l03.trans l35
  have hks : ∀ k ∈ [w2.heap.size], w.heap.size ≤ k := by intro k hk; rw [List.mem_singleton.1 hk]; omega
  clear FA FB B3 a3 b3 l4 l5 l03 l35
  obtain ⟨⟨ha1, ha2⟩, ⟨ha3, ha4⟩, ⟨ha5, ha6⟩, ha7⟩ := ha
  obtain ⟨⟨hb1, hb2⟩, ⟨hb3, hb4⟩, ⟨hb5, hb6⟩, hb7⟩ := hb
  have fin : ∀ (x : Ag) (e : Int) (w6 : World) (σ : Env), Blk w6 w2.heap.size (agC x).toArray 52 → Chg w5 w6 [w2.heap.size] → σ 4 = .pointer (some ⟨w2.heap.size, 0, none⟩) → σ 5 = .int .i64 e → jnV a b = .tuple #[agV x, .int .i64 e] →
      resK Tryz.prog [.cell 4 52, .tmp 5] [] σ (fun r w' => r = jnV a b ∧ Later w w') w6 := by
    intro x e w6 σ hb6 hc6 h4 h5 hj
    refine resK_cells (s := 3) h4 (by rw [Tryz.underlying52]; exact sz52) (Blk.cellsAt (l := agC x) hb6) ?_
    repeat' (first | (simp (disch := omega) only [push_cast, seval, h5]) | refine iX ?_ ?_ <;> intros | refine aI (by omega) ?_ | refine dq ?_)
    rw [hj]
    exact ⟨rfl, Chg.later hlE hc6 hks⟩
  by_cases hf : Fi (a.1 + b.1)
  · have := jt hf
    obtain ⟨hf1, hf2⟩ := hf
    repeat' (first | (simp (disch := omega) only [push_cast, seval, c0, c1, c2, d0, d1, d2, addr_add_eq, Nat.zero_add]) | refine iX ?_ ?_ <;> intros | refine aI (by omega) ?_ | refine dq ?_)
    all_goals
      refine vStore_blk (l := [.int .i64 0, .int .i64 0, .int .i64 0]) (xs := agC (ajn a b)) hB3 rfl rfl (agC_one _) ?_
      intro w6 hb6 hc6
      repeat' (first | (simp (disch := omega) only [push_cast, seval]) | refine iX ?_ ?_ <;> intros | refine aI (by omega) ?_ | refine dq ?_)
      exact fin _ _ w6 _ hb6 hc6 (by simp (disch := omega) only [push_cast, seval]) (by simp (disch := omega) only [push_cast, seval]) this
  · have := jf hf
    have hf' : a.1 + b.1 < -4611686018427387904 ∨ 4611686018427387904 < a.1 + b.1 := by unfold Fi at hf; omega
    clear hf
    repeat' (first | (simp (disch := omega) only [push_cast, seval, c0, c1, c2, d0, d1, d2, addr_add_eq, Nat.zero_add]) | refine iX ?_ ?_ <;> intros | refine aI (by omega) ?_ | refine dq ?_)
    all_goals
      refine vStore_blk (l := [.int .i64 0, .int .i64 0, .int .i64 0]) (xs := agC (0, 0, 0)) hB3 rfl rfl (agC_one _) ?_
      intro w6 hb6 hc6
      repeat' (first | (simp (disch := omega) only [push_cast, seval]) | refine iX ?_ ?_ <;> intros | refine aI (by omega) ?_ | refine dq ?_)
      exact fin _ _ w6 _ hb6 hc6 (by simp (disch := omega) only [push_cast, seval]) (by simp (disch := omega) only [push_cast, seval]) this
theorem cajoin_c (a b : Ag) (w : World) (ha : ARt a) (hb : ARt b) : FnC Tryz.prog 117 #[agV a, agV b] w fun r w' => r = jnV a b ∧ Later w w' := by
  have jt : Fi (a.1 + b.1) → jnV a b = .tuple #[agV (ajn a b), .int .i64 0] := fun h => if_pos h
  have jf : ¬ Fi (a.1 + b.1) → jnV a b = .tuple #[agV (0, 0, 0), .int .i64 121] := fun h => if_neg h
  unfold agV
  refine enter117 _ _ ?_
  unfold B117
  have eca : (Value.agg #[.int .i64 a.1, .int .i64 a.2.1, .int .i64 a.2.2]).cells = #[.int .i64 a.1, .int .i64 a.2.1, .int .i64 a.2.2] := rfl
  have ecb : (Value.agg #[.int .i64 b.1, .int .i64 b.2.1, .int .i64 b.2.2]).cells = #[.int .i64 b.1, .int .i64 b.2.1, .int .i64 b.2.2] := rfl
  have l1 := later_alloc w (.cells #[.int .i64 a.1, .int .i64 a.2.1, .int .i64 a.2.2] 52)
  have B1 := Blk.new w #[.int .i64 a.1, .int .i64 a.2.1, .int .i64 a.2.2] 52
  have s1 : (w.alloc (.cells #[.int .i64 a.1, .int .i64 a.2.1, .int .i64 a.2.2] 52)).heap.size = w.heap.size + 1 := World.size_alloc w _
  repeat' (first | (simp (disch := omega) only [push_cast, seval, eca, ecb]) | refine iX ?_ ?_ <;> intros | refine aI (by omega) ?_ | refine dq ?_)
  generalize w.alloc (.cells #[.int .i64 a.1, .int .i64 a.2.1, .int .i64 a.2.2] 52) = w1 at *
  have l2 := later_alloc w1 (.cells #[.int .i64 b.1, .int .i64 b.2.1, .int .i64 b.2.2] 52)
  have B2 := Blk.new w1 #[.int .i64 b.1, .int .i64 b.2.1, .int .i64 b.2.2] 52
  have s2 : (w1.alloc (.cells #[.int .i64 b.1, .int .i64 b.2.1, .int .i64 b.2.2] 52)).heap.size = w1.heap.size + 1 := World.size_alloc w1 _
  generalize w1.alloc (.cells #[.int .i64 b.1, .int .i64 b.2.1, .int .i64 b.2.2] 52) = w2 at *
  have l3 := later_alloc w2 (.cells #[.int .i64 0, .int .i64 0, .int .i64 0] 52)
  have B3 := Blk.new w2 #[.int .i64 0, .int .i64 0, .int .i64 0] 52
  generalize w2.alloc (.cells #[.int .i64 0, .int .i64 0, .int .i64 0] 52) = w3 at *
  have FA := fun w' (hl : Later w3 w') => box3_later B1 ((l2.trans l3).trans hl)
  have FB := fun w' (hl : Later w3 w') => box3_later B2 (l3.trans hl)
  have l03 := (l1.trans l2).trans l3
  clear l1 l2 l3 B1 B2
  obtain ⟨_, _, _, a3⟩ := FA w3 (Later.refl _)
  repeat' (first | (simp (disch := omega) only [push_cast, seval, a3]) | refine iX ?_ ?_ <;> intros | refine aI (by omega) ?_ | refine dq ?_)
  refine (caright_c a w3).mono ?_
  rintro _ w4 ⟨rfl, l4⟩
  rw [decide_eq_true ha]
  obtain ⟨_, _, _, b3⟩ := FB w4 l4
  repeat' (first | (simp (disch := omega) only [push_cast, seval, b3]) | refine iX ?_ ?_ <;> intros | refine aI (by omega) ?_ | refine dq ?_)
  refine (caright_c b w4).mono ?_
  rintro _ w5 ⟨rfl, l5⟩
  rw [decide_eq_true hb]
  have l35 := l4.trans l5
  obtain ⟨c0, c1, c2, _⟩ := FA w5 l35
  obtain ⟨d0, d1, d2, _⟩ := FB w5 l35
  have hB3 := B3.chg (Chg.of_later (ks := []) l35) (by simp)
  have hlE := l03.trans l35
  have hks : ∀ k ∈ [w2.heap.size], w.heap.size ≤ k := by intro k hk; rw [List.mem_singleton.1 hk]; omega
  clear FA FB B3 a3 b3 l4 l5 l03 l35
  obtain ⟨⟨ha1, ha2⟩, ⟨ha3, ha4⟩, ⟨ha5, ha6⟩, ha7⟩ := ha
  obtain ⟨⟨hb1, hb2⟩, ⟨hb3, hb4⟩, ⟨hb5, hb6⟩, hb7⟩ := hb
  have fin : ∀ (x : Ag) (e : Int) (w6 : World) (σ : Env), Blk w6 w2.heap.size (agC x).toArray 52 → Chg w5 w6 [w2.heap.size] → σ 4 = .pointer (some ⟨w2.heap.size, 0, none⟩) → σ 5 = .int .i64 e → jnV a b = .tuple #[agV x, .int .i64 e] →
      resK Tryz.prog [.cell 4 52, .tmp 5] [] σ (fun r w' => r = jnV a b ∧ Later w w') w6 := by
    intro x e w6 σ hb6 hc6 h4 h5 hj
    refine resK_cells (s := 3) h4 (by rw [Tryz.underlying52]; exact sz52) (Blk.cellsAt (l := agC x) hb6) ?_
    repeat' (first | (simp (disch := omega) only [push_cast, seval, h5]) | refine iX ?_ ?_ <;> intros | refine aI (by omega) ?_ | refine dq ?_)
    rw [hj]
    exact ⟨rfl, Chg.later hlE hc6 hks⟩
  by_cases hf : Fi (a.1 + b.1)
  · have := jt hf
    obtain ⟨hf1, hf2⟩ := hf
    repeat' (first | (simp (disch := omega) only [push_cast, seval, c0, c1, c2, d0, d1, d2, addr_add_eq, Nat.zero_add]) | refine iX ?_ ?_ <;> intros | refine aI (by omega) ?_ | refine dq ?_)
    all_goals
      refine vStore_blk (l := [.int .i64 0, .int .i64 0, .int .i64 0]) (xs := agC (ajn a b)) hB3 rfl rfl (agC_one _) ?_
      intro w6 hb6 hc6
      repeat' (first | (simp (disch := omega) only [push_cast, seval]) | refine iX ?_ ?_ <;> intros | refine aI (by omega) ?_ | refine dq ?_)
      exact fin _ _ w6 _ hb6 hc6 (by simp (disch := omega) only [push_cast, seval]) (by simp (disch := omega) only [push_cast, seval]) this
  · have := jf hf
    have hf' : a.1 + b.1 < -4611686018427387904 ∨ 4611686018427387904 < a.1 + b.1 := by unfold Fi at hf; omega
    clear hf
    repeat' (first | (simp (disch := omega) only [push_cast, seval, c0, c1, c2, d0, d1, d2, addr_add_eq, Nat.zero_add]) | refine iX ?_ ?_ <;> intros | refine aI (by omega) ?_ | refine dq ?_)
    all_goals
      refine vStore_blk (l := [.int .i64 0, .int .i64 0, .int .i64 0]) (xs := agC (0, 0, 0)) hB3 rfl rfl (agC_one _) ?_
      intro w6 hb6 hc6
      repeat' (first | (simp (disch := omega) only [push_cast, seval]) | refine iX ?_ ?_ <;> intros | refine aI (by omega) ?_ | refine dq ?_)
      exact fin _ _ w6 _ hb6 hc6 (by simp (disch := omega) only [push_cast, seval]) (by simp (disch := omega) only [push_cast, seval]) this
theorem qX_agg {x y : Operand} {u ty : TypeId} {σ : Env} {w : World} {K : Value → Prop} {a b : Ag} (hx : ev σ x = agV a) (hy : ev σ y = agV b) (hk : K (.bool (!decide (a = b)))) :
    qX Tryz.prog (.binOp .neq 52 x y u) ty σ w K := by
  refine pure_of_up (s := do eqGuard .neq 52 x y (ev σ x) (ev σ y); binOp .neq 52 (ev σ x) (ev σ y)) (fun w' => ?_) ⟨_, fun w' => ?_, hk⟩
  · unfold exe; simp only [execOp]; rfl
  · rw [hx, hy]
    exact run_triple Tryz.underlying52 Tryz.underlying3 Tryz.underlying3 Tryz.underlying3 rfl rfl rfl (by decide) (by decide) (by decide) (by kernel_rfl) (by kernel_rfl) _ _ _ _ _ _ _ _ _
theorem casame_c (u v : Value) (a b : List Ag) (w : World) (hu : AgS w u a) (hv : AgS w v b) : FnC Tryz.prog 75 #[u, v] w fun r w' => r = .bool (decide (a = b)) ∧ Later w w' := by
  obtain ⟨oa, ca, rfl, g1, g2⟩ := hu.slice
  obtain ⟨ob, cb, rfl, k1, k2⟩ := hv.slice
  refine enter75 _ _ ?_
  unfold B75
  by_cases hlen : a.length = b.length
  · repeat' (first | (simp (disch := omega) only [push_cast, seval]) | refine iX ?_ ?_ <;> intros | refine aI (by omega) ?_ | refine dq ?_)
    refine vc_loop W75_0 (fun i : Nat => [(4, .bool false), (5, .int .i64 (i : Int))])
      (fun i w' => i ≤ a.length ∧ Later w w' ∧ a.take i = b.take i) (fun i => a.length - i) 0 (by decide) ?_ ?_ ?_
    · simp (disch := omega) only [push_cast, seval]
    · exact ⟨by omega, Later.refl _, by simp⟩
    rintro i uu w0 ⟨hi, hl, he⟩
    by_cases ha : i < a.length
    · have hb : i < b.length := by omega
      obtain ⟨aa, rfl, c1⟩ := RecS.at agC_len (hu.later hl) ha
      obtain ⟨bb, rfl, c2⟩ := RecS.at agC_len (hv.later hl) hb
      unfold agC at c1 c2
      repeat' (first | (simp (disch := omega) only [push_cast, seval]) | refine iX ?_ ?_ <;> intros | refine aI (by omega) ?_ | fail)
      refine drawn_q ?_
      repeat' (first | (simp (disch := omega) only [push_cast, seval, c1, c2]) | refine iX ?_ ?_ <;> intros | refine aI (by omega) ?_ | refine dq ?_)
      refine qX_agg (a := a[i]) (b := b[i]) (by simp (disch := omega) only [push_cast, seval]; rfl) (by simp (disch := omega) only [push_cast, seval]; rfl) ?_
      by_cases hab : a[i] = b[i]
      · repeat' (first | (simp (disch := omega) only [push_cast, seval, hab, decide_true]) | refine iX ?_ ?_ <;> intros | refine aI (by omega) ?_ | refine dq ?_)
        intro w1 hl1
        repeat' (first | (simp (disch := omega) only [push_cast, seval]) | refine iX ?_ ?_ <;> intros | refine aI (by omega) ?_ | refine dq ?_)
        refine ⟨rfl, i + 1, by simp (disch := omega) only [push_cast, seval], ⟨by omega, hl.trans hl1, ?_⟩, by simp; omega⟩
        rw [take_snoc a i ha, take_snoc b i hb, he, hab]
      · have hne : a ≠ b := fun e => by subst e; exact hab rfl
        repeat' (first | (simp (disch := omega) only [push_cast, seval, hab, decide_false]) | refine iX ?_ ?_ <;> intros | refine aI (by omega) ?_ | refine dq ?_)
        intro w1 hl1
        repeat' (first | (simp (disch := omega) only [push_cast, seval]) | refine iX ?_ ?_ <;> intros | refine aI (by omega) ?_ | refine dq ?_)
        simp [hne, hl.trans hl1]
    · have e : i = a.length := by omega
      subst e
      rw [List.take_length, hlen, List.take_length] at he
      repeat' (first | (simp (disch := omega) only [push_cast, seval]) | refine iX ?_ ?_ <;> intros | refine aI (by omega) ?_ | refine dq ?_)
      simp [he, hl]
  · have hne : a ≠ b := fun e => by subst e; exact hlen rfl
    repeat' (first | (simp (disch := omega) only [push_cast, seval]) | refine iX ?_ ?_ <;> intros | refine aI (by omega) ?_ | refine dq ?_)
    simp [hne, Later.refl]
end Go.Proofs.YtnofalhkapmcnaaGreat
end
section
set_option linter.unusedSimpArgs false
namespace Go.Proofs.YtnofalhkapmcnaaGreat
open Go.Vc Go.Key
set_option maxRecDepth 100000
structure El where
  t : Int
  d : List ByteArray
  n : Int
  a : List Ag
  dv : Value
  av : Value
instance : Inhabited El := ⟨⟨0, [], 0, [], .slice none 0 0, .slice none 0 0⟩⟩
def elC (e : El) : List Value := [.int .i64 e.t, e.dv, .int .i64 e.n, e.av]
def elV (e : El) : Value := .agg #[.int .i64 e.t, e.dv, .int .i64 e.n, e.av]
theorem elC_len (e : El) : (elC e).length = 4 := rfl
def EIs (w : World) (e : El) : Prop := StS w e.dv e.d ∧ AgS w e.av e.a
theorem EIs.later {w w' : World} {e : El} (h : EIs w e) (hl : Later w w') : EIs w' e := ⟨Sl.later h.1 hl, RecS.later h.2 hl⟩
def ecmp (x y : El) : Int := ckey x.t x.d y.t y.d
def elt (x y : El) : Bool := decide (ecmp x y < 0)
theorem elt_swo : Stab.Swo elt := swo_key El.t El.d
theorem box4 (w : World) (a b c d : Value) (e : TypeId) : (w.alloc (.cells #[a, b, c, d] e)).cell? ⟨w.heap.size, 0, none⟩ = some a ∧ (w.alloc (.cells #[a, b, c, d] e)).cell? ⟨w.heap.size, 1, none⟩ = some b ∧ (w.alloc (.cells #[a, b, c, d] e)).cell? ⟨w.heap.size, 2, none⟩ = some c ∧ (w.alloc (.cells #[a, b, c, d] e)).cell? ⟨w.heap.size, 3, none⟩ = some d ∧ cellsAt (w.alloc (.cells #[a, b, c, d] e)) ⟨w.heap.size, 0, none⟩ 4 = some [a, b, c, d] :=
  ⟨(Blk.new w #[a, b, c, d] e).cell 0, (Blk.new w #[a, b, c, d] e).cell 1, (Blk.new w #[a, b, c, d] e).cell 2, (Blk.new w #[a, b, c, d] e).cell 3, Blk.cellsAt (l := [a, b, c, d]) (Blk.new w #[a, b, c, d] e)⟩
theorem box4_later {w w' : World} {k : Nat} {a b c d : Value} {e : TypeId} (h : Blk w k #[a, b, c, d] e) (hl : Later w w') : w'.cell? ⟨k, 0, none⟩ = some a ∧ w'.cell? ⟨k, 1, none⟩ = some b ∧ w'.cell? ⟨k, 2, none⟩ = some c ∧ w'.cell? ⟨k, 3, none⟩ = some d ∧ cellsAt w' ⟨k, 0, none⟩ 4 = some [a, b, c, d] := by
  have := h.chg (Chg.of_later (ks := []) hl) (by simp)
  exact ⟨this.cell 0, this.cell 1, this.cell 2, this.cell 3, Blk.cellsAt (l := [a, b, c, d]) this⟩
theorem boxes (w : World) (x y : El) (hx : EIs w x) (hy : EIs w y) : Later w ((w.alloc (.cells #[.int .i64 x.t, x.dv, .int .i64 x.n, x.av] 55)).alloc (.cells #[.int .i64 y.t, y.dv, .int .i64 y.n, y.av] 55)) ∧ (∀ w', Later ((w.alloc (.cells #[.int .i64 x.t, x.dv, .int .i64 x.n, x.av] 55)).alloc (.cells #[.int .i64 y.t, y.dv, .int .i64 y.n, y.av] 55)) w' → EIs w' x ∧ EIs w' y ∧ Blk w' w.heap.size (elC x).toArray 55 ∧ Blk w' (w.heap.size + 1) (elC y).toArray 55 ∧
      w'.cell? ⟨w.heap.size, 0, none⟩ = some (.int .i64 x.t) ∧ w'.cell? ⟨w.heap.size, 1, none⟩ = some x.dv ∧ w'.cell? ⟨w.heap.size, 2, none⟩ = some (.int .i64 x.n) ∧ w'.cell? ⟨w.heap.size, 3, none⟩ = some x.av ∧ cellsAt w' ⟨w.heap.size, 0, none⟩ 4 = some (elC x) ∧
      w'.cell? ⟨w.heap.size + 1, 0, none⟩ = some (.int .i64 y.t) ∧ w'.cell? ⟨w.heap.size + 1, 1, none⟩ = some y.dv ∧ w'.cell? ⟨w.heap.size + 1, 2, none⟩ = some (.int .i64 y.n) ∧ w'.cell? ⟨w.heap.size + 1, 3, none⟩ = some y.av ∧ cellsAt w' ⟨w.heap.size + 1, 0, none⟩ 4 = some (elC y)) ∧ ((w.alloc (.cells #[.int .i64 x.t, x.dv, .int .i64 x.n, x.av] 55)).alloc (.cells #[.int .i64 y.t, y.dv, .int .i64 y.n, y.av] 55)).heap.size = w.heap.size + 2 := by
  have l1 := later_alloc w (.cells #[.int .i64 x.t, x.dv, .int .i64 x.n, x.av] 55)
  have B1 := Blk.new w #[.int .i64 x.t, x.dv, .int .i64 x.n, x.av] 55
  have s1 : (w.alloc (.cells #[.int .i64 x.t, x.dv, .int .i64 x.n, x.av] 55)).heap.size = w.heap.size + 1 := World.size_alloc w _
  generalize w.alloc (.cells #[.int .i64 x.t, x.dv, .int .i64 x.n, x.av] 55) = w1 at *
  have l2 := later_alloc w1 (.cells #[.int .i64 y.t, y.dv, .int .i64 y.n, y.av] 55)
  have B2 := Blk.new w1 #[.int .i64 y.t, y.dv, .int .i64 y.n, y.av] 55
  have s2 : (w1.alloc (.cells #[.int .i64 y.t, y.dv, .int .i64 y.n, y.av] 55)).heap.size = w1.heap.size + 1 := World.size_alloc w1 _
  generalize w1.alloc (.cells #[.int .i64 y.t, y.dv, .int .i64 y.n, y.av] 55) = w2 at *
  rw [s1] at B2
  refine ⟨l1.trans l2, fun w' hl => ?_, by omega⟩
  obtain ⟨a0, a1, a2, a3, a4⟩ := box4_later B1 (l2.trans hl)
  obtain ⟨b0, b1, b2, b3, b4⟩ := box4_later B2 hl
  exact ⟨hx.later ((l1.trans l2).trans hl), hy.later ((l1.trans l2).trans hl), B1.chg (Chg.of_later (ks := []) (l2.trans hl)) (by simp), B2.chg (Chg.of_later (ks := []) hl) (by simp), a0, a1, a2, a3, a4, b0, b1, b2, b3, b4⟩
theorem rcompare_c (x y : El) (w : World) (hx : EIs w x) (hy : EIs w y) : FnC Tryz.prog 70 #[elV x, elV y] w fun r w' => r = .int .i64 (ecmp x y) ∧ Later w w' := by
  unfold elV
  refine enter70 _ _ ?_
  unfold B70
  have eca : (Value.agg #[.int .i64 x.t, x.dv, .int .i64 x.n, x.av]).cells = #[.int .i64 x.t, x.dv, .int .i64 x.n, x.av] := rfl
  have ecb : (Value.agg #[.int .i64 y.t, y.dv, .int .i64 y.n, y.av]).cells = #[.int .i64 y.t, y.dv, .int .i64 y.n, y.av] := rfl
  have s1 : (w.alloc (.cells #[.int .i64 x.t, x.dv, .int .i64 x.n, x.av] 55)).heap.size = w.heap.size + 1 := World.size_alloc w _
  repeat' (first | (simp (disch := omega) only [push_cast, seval, eca, ecb, s1]) | refine iX ?_ ?_ <;> intros | refine aI (by omega) ?_ | fail)
  obtain ⟨l2, F, hs⟩ := boxes w x y hx hy
  generalize ((w.alloc (.cells #[.int .i64 x.t, x.dv, .int .i64 x.n, x.av] 55)).alloc (.cells #[.int .i64 y.t, y.dv, .int .i64 y.n, y.av] 55)) = w2 at *
  obtain ⟨hx2, hy2, _, _, a0, a1, _, _, _, b0, b1, _, _, _⟩ := F w2 (Later.refl _)
  refine drawn_k 9 ?_
  repeat' (first | (simp (disch := omega) only [push_cast, seval, a0, a1, b0, b1, addr_add_eq, Nat.zero_add]) | refine iX ?_ ?_ <;> intros | refine aI (by omega) ?_ | fail)
  refine NFn.fix hb60 (v := .int .i64 (if x.t < y.t then -1 else if y.t < x.t then 1 else 0)) (fun w' _ => (cmpI_c _ _ w').mono fun _ _ h => ⟨h.1, h.2 ▸ Later.refl _⟩) ?_
  repeat' (first | (simp (disch := omega) only [push_cast, seval, a1, b1, addr_add_eq, Nat.zero_add]) | refine iX ?_ ?_ <;> intros | refine aI (by omega) ?_ | fail)
  intro w3 l3
  repeat' (first | (simp (disch := omega) only [push_cast, seval]) | refine iX ?_ ?_ <;> intros | refine aI (by omega) ?_ | fail)
  refine (scmp_c _ _ _ _ w3 (hx2.later l3).1 (hy2.later l3).1).mono ?_
  rintro _ w4 ⟨rfl, h4⟩
  obtain rfl := h4.symm
  repeat' (first | (simp (disch := omega) only [push_cast, seval]) | refine iX ?_ ?_ <;> intros | refine aI (by omega) ?_ | refine dq ?_)
  have e : (if (if x.t < y.t then (-1 : Int) else if y.t < x.t then 1 else 0) = 0 then clist x.d y.d else (if x.t < y.t then -1 else if y.t < x.t then 1 else 0)) = ecmp x y := by
    unfold ecmp ckey
    by_cases h1 : x.t < y.t
    · simp [h1]
    · by_cases h2 : y.t < x.t <;> simp [h1, h2]
  generalize (if x.t < y.t then (-1 : Int) else if y.t < x.t then 1 else 0) = c at *
  have lb := later_alloc w3 (.cells #[.int .i64 c, .int .i64 (clist x.d y.d)] 3)
  have hsl : Sl (w3.alloc (.cells #[.int .i64 c, .int .i64 (clist x.d y.d)] 3)) (.slice (some ⟨w3.heap.size, 0, none⟩) 2 2) (([c, clist x.d y.d] : List Int).map i64v) :=
    Sl.of_blk (xs := [.int .i64 c, .int .i64 (clist x.d y.d)]) (Blk.new w3 _ _) rfl (by unfold maxLen; omega)
  refine (cmpOr_c _ _ _ _ hsl).mono ?_
  rintro _ w5 ⟨rfl, h5⟩
  obtain rfl := h5.symm
  rw [e]
  repeat' (first | (simp (disch := omega) only [push_cast, seval]) | refine iX ?_ ?_ <;> intros | refine aI (by omega) ?_ | refine dq ?_)
  first | exact ⟨rfl, ((l2.trans l3).trans lb)⟩ | exact ((l2.trans l3).trans lb)
theorem onekey_c (x y : El) (w : World) (hx : EIs w x) (hy : EIs w y) : FnC Tryz.prog 73 #[elV x, elV y] w fun r w' => r = .bool (decide (ecmp x y = 0)) ∧ Later w w' := by
  unfold elV
  refine enter73 _ _ ?_
  unfold B73
  have eca : (Value.agg #[.int .i64 x.t, x.dv, .int .i64 x.n, x.av]).cells = #[.int .i64 x.t, x.dv, .int .i64 x.n, x.av] := rfl
  have ecb : (Value.agg #[.int .i64 y.t, y.dv, .int .i64 y.n, y.av]).cells = #[.int .i64 y.t, y.dv, .int .i64 y.n, y.av] := rfl
  have s1 : (w.alloc (.cells #[.int .i64 x.t, x.dv, .int .i64 x.n, x.av] 55)).heap.size = w.heap.size + 1 := World.size_alloc w _
  repeat' (first | (simp (disch := omega) only [push_cast, seval, eca, ecb, s1, addr_add_eq, Nat.zero_add]) | refine iX ?_ ?_ <;> intros | refine aI (by omega) ?_ | fail)
  obtain ⟨l2, F, hs⟩ := boxes w x y hx hy
  generalize ((w.alloc (.cells #[.int .i64 x.t, x.dv, .int .i64 x.n, x.av] 55)).alloc (.cells #[.int .i64 y.t, y.dv, .int .i64 y.n, y.av] 55)) = w2 at *
  obtain ⟨hx2, hy2, _, _, a0, a1, _, _, _, b0, b1, _, _, _⟩ := F w2 (Later.refl _)
  repeat' (first | (simp (disch := omega) only [push_cast, seval, a0, a1, b0, b1, addr_add_eq, Nat.zero_add]) | refine iX ?_ ?_ <;> intros | refine aI (by omega) ?_ | refine dq ?_)
  refine (texts_c _ _ _ _ w2 hx2.1 hy2.1).mono ?_
  rintro _ w3 ⟨rfl, l3⟩
  obtain ⟨_, _, _, _, a0, a1, _, _, _, b0, b1, _, _, _⟩ := F w3 l3
  have l03 := l2.trans l3
  have hk := ckey_is x.t x.d y.t y.d
  by_cases hd : x.d = y.d
  · by_cases ht : x.t = y.t
    · have e : ecmp x y = 0 := by rcases hk with h | h | h; exact absurd ⟨ht, hd⟩ h.2.2; exact h.1; exact absurd ⟨ht, hd⟩ h.2.2
      rw [decide_eq_true hd, decide_eq_true e]
      repeat' (first | (simp (disch := omega) only [push_cast, seval, a0, b0, ht, decide_true, addr_add_eq, Nat.zero_add]) | refine iX ?_ ?_ <;> intros | refine aI (by omega) ?_ | refine dq ?_)
      first | exact ⟨rfl, l03⟩ | exact l03
    · have e : ¬ ecmp x y = 0 := by intro h0; have h0 : ckey x.t x.d y.t y.d = 0 := h0; rcases hk with h | h | h; omega; exact absurd h.2.2.1 ht; omega
      rw [decide_eq_true hd, decide_eq_false e]
      repeat' (first | (simp (disch := omega) only [push_cast, seval, a0, b0, addr_add_eq, Nat.zero_add]) | refine iX ?_ ?_ <;> intros | refine aI (by omega) ?_ | refine dq ?_)
      first | exact ⟨(by simp [ht]), l03⟩ | exact l03
  · have e : ¬ ecmp x y = 0 := by intro h0; have h0 : ckey x.t x.d y.t y.d = 0 := h0; rcases hk with h | h | h; omega; exact absurd h.2.2.2 hd; omega
    rw [decide_eq_false hd, decide_eq_false e]
    repeat' (first | (simp (disch := omega) only [push_cast, seval, a0, b0, addr_add_eq, Nat.zero_add]) | refine iX ?_ ?_ <;> intros | refine aI (by omega) ?_ | refine dq ?_)
    first | exact ⟨rfl, l03⟩ | exact l03
theorem less_c (x y : El) (w : World) (hx : EIs w x) (hy : EIs w y) (hl : x.d.length = y.d.length) : FnC Tryz.prog 72 #[elV x, elV y] w fun r w' => r = .bool (elt x y) ∧ Later w w' := by
  unfold elV
  refine enter72 _ _ ?_
  unfold B72
  have eca : (Value.agg #[.int .i64 x.t, x.dv, .int .i64 x.n, x.av]).cells = #[.int .i64 x.t, x.dv, .int .i64 x.n, x.av] := rfl
  have ecb : (Value.agg #[.int .i64 y.t, y.dv, .int .i64 y.n, y.av]).cells = #[.int .i64 y.t, y.dv, .int .i64 y.n, y.av] := rfl
  have s1 : (w.alloc (.cells #[.int .i64 x.t, x.dv, .int .i64 x.n, x.av] 55)).heap.size = w.heap.size + 1 := World.size_alloc w _
  repeat' (first | (simp (disch := omega) only [push_cast, seval, eca, ecb, s1, addr_add_eq, Nat.zero_add]) | refine iX ?_ ?_ <;> intros | refine aI (by omega) ?_ | fail)
  obtain ⟨l2, F, hs⟩ := boxes w x y hx hy
  generalize ((w.alloc (.cells #[.int .i64 x.t, x.dv, .int .i64 x.n, x.av] 55)).alloc (.cells #[.int .i64 y.t, y.dv, .int .i64 y.n, y.av] 55)) = w2 at *
  obtain ⟨hx2, hy2, _, _, a0, a1, _, _, _, b0, b1, _, _, _⟩ := F w2 (Later.refl _)
  by_cases h1 : x.t < y.t
  · have e : elt x y = true := by simp [elt, ecmp, ckey, h1]
    rw [e]
    repeat' (first | (simp (disch := omega) only [push_cast, seval, a0, b0, addr_add_eq, Nat.zero_add]) | refine iX ?_ ?_ <;> intros | refine aI (by omega) ?_ | refine dq ?_)
    first | exact ⟨(by simp [h1]), l2⟩ | exact l2
  · by_cases h2 : y.t < x.t
    · have e : elt x y = false := by simp [elt, ecmp, ckey, h1, h2]
      rw [e]
      repeat' (first | (simp (disch := omega) only [push_cast, seval, a0, b0, addr_add_eq, Nat.zero_add]) | refine iX ?_ ?_ <;> intros | refine aI (by omega) ?_ | refine dq ?_)
      first | exact ⟨(by simp [h1]), l2⟩ | exact l2
    · have ht : x.t = y.t := by omega
      have e : elt x y = decide (clist x.d y.d < 0) := by simp [elt, ecmp, ckey, h1, h2]
      rw [e]
      clear e h1 h2 eca ecb s1
      obtain ⟨hx2s, _⟩ := hx2
      obtain ⟨hy2s, _⟩ := hy2
      have hX := hx.1
      have hY := hy.1
      obtain ⟨ox, cx, hdx, gx, _, hxs, _⟩ := hX.openM
      obtain ⟨oy, cy, hdy, gy, _, hys, _⟩ := hY.openM
      rw [hdx] at hx2s a1
      rw [hdy] at hy2s b1
      repeat' (first | (simp (disch := omega) only [push_cast, seval, a0, b0, ht, decide_true, Bool.not_true, addr_add_eq, Nat.zero_add]) | refine iX ?_ ?_ <;> intros | refine aI (by omega) ?_ | refine dq ?_)
      refine vc_loop W72_0 (fun i : Nat => [(4, .bool false), (5, .int .i64 (i : Int))])
        (fun i w' => i ≤ x.d.length ∧ Later w2 w' ∧ clist (x.d.drop i) (y.d.drop i) = clist x.d y.d) (fun i => x.d.length - i) 0 (by decide) ?_ ?_ ?_
      · simp (disch := omega) only [push_cast, seval]
      · exact ⟨by omega, Later.refl _, by simp⟩
      rintro i uu w0 ⟨hi, hl0, he⟩
      obtain ⟨_, _, _, _, _, a1, _, _, _, _, b1, _, _, _⟩ := F w0 hl0
      rw [hdx] at a1
      rw [hdy] at b1
      by_cases ha : i < x.d.length
      · have hb : i < y.d.length := by omega
        obtain ⟨aa, rfl⟩ := hxs.some ha
        obtain ⟨bb, rfl⟩ := hys.some hb
        have c1 := StS.atS (Sl.later hx2s hl0) ha
        have c2 := StS.atS (Sl.later hy2s hl0) hb
        rw [clist_step ha hb] at he
        by_cases hab : x.d[i] = y.d[i]
        · have h0 : cstr x.d[i] y.d[i] = 0 := by
            rcases cstr_is x.d[i] y.d[i] with h | h | h
            · have := h.1; rw [hab] at h; have h3 := h.1; have h4 := h.2.1; omega
            · exact h.1
            · have := h.1; rw [hab] at h; have h3 := h.1; have h4 := h.2.1; omega
          rw [if_pos h0] at he
          repeat' (first | (simp (disch := omega) only [push_cast, seval, a1, b1, c1, c2, hab, decide_true, Bool.not_true, addr_add_eq, Nat.zero_add]) | refine iX ?_ ?_ <;> intros | refine aI (by omega) ?_ | refine dq ?_)
          intro w1 hl1
          repeat' (first | (simp (disch := omega) only [push_cast, seval]) | refine iX ?_ ?_ <;> intros | refine aI (by omega) ?_ | refine dq ?_)
          exact ⟨rfl, i + 1, by simp (disch := omega) only [push_cast, seval], ⟨by omega, hl0.trans hl1, he⟩, by dsimp only; omega⟩
        · have h0 : ¬ cstr x.d[i] y.d[i] = 0 := by
            rcases cstr_is x.d[i] y.d[i] with h | h | h
            · have := h.1; omega
            · exact absurd h.2.2 hab
            · have := h.1; omega
          rw [if_neg h0] at he
          have hlt : Op.bytesLess x.d[i].data.toList y.d[i].data.toList = decide (clist x.d y.d < 0) := by
            rw [← he]
            rcases cstr_is x.d[i] y.d[i] with h | h | h
            · rw [h.1]; exact h.2.2
            · exact absurd h.2.2 hab
            · rw [h.1]
              rcases blt_tri x.d[i] y.d[i] with g | g | g
              · have g2 := g.2.1; rw [h.2.2] at g2; cases g2
              · exact absurd g.1 hab
              · exact g.1
          repeat' (first | (simp (disch := omega) only [push_cast, seval, a1, b1, c1, c2, hab, decide_false, Bool.not_false, addr_add_eq, Nat.zero_add]) | refine iX ?_ ?_ <;> intros | refine aI (by omega) ?_ | refine dq ?_)
          intro w1 hl1
          obtain ⟨_, _, _, _, _, a1, _, _, _, _, b1, _, _, _⟩ := F w1 (hl0.trans hl1)
          rw [hdx] at a1
          rw [hdy] at b1
          have c1 := StS.atS (Sl.later hx2s (hl0.trans hl1)) ha
          have c2 := StS.atS (Sl.later hy2s (hl0.trans hl1)) hb
          repeat' (first | (simp (disch := omega) only [push_cast, seval, a1, b1, c1, c2, addr_add_eq, Nat.zero_add]) | refine iX ?_ ?_ <;> intros | refine aI (by omega) ?_ | refine dq ?_)
          intro w3 hl3
          repeat' (first | (simp (disch := omega) only [push_cast, seval]) | refine iX ?_ ?_ <;> intros | refine aI (by omega) ?_ | refine dq ?_)
          first | exact ⟨(by rw [hlt]), ((l2.trans (hl0.trans hl1)).trans hl3)⟩ | exact ((l2.trans (hl0.trans hl1)).trans hl3)
      · have e : clist x.d y.d = 0 := by rw [← he, clist_n (by omega) (by omega)]
        rw [e]
        repeat' (first | (simp (disch := omega) only [push_cast, seval, a1, b1, addr_add_eq, Nat.zero_add]) | refine iX ?_ ?_ <;> intros | refine aI (by omega) ?_ | refine dq ?_)
        first | exact ⟨rfl, (l2.trans hl0)⟩ | exact (l2.trans hl0)
end Go.Proofs.YtnofalhkapmcnaaGreat
end
section
set_option linter.unusedSimpArgs false
namespace Go.Proofs.YtnofalhkapmcnaaGreat
open Go.Vc Go.Key Go.Stab
set_option maxRecDepth 100000
def EO (w : World) (B : Nat) (e : El) : Prop := w.ownsRow B 9 1 e.dv e.d.length (e.d.map Value.string) ∧ OwnA w B e.av e.a
theorem EO.is {w : World} {B : Nat} {e : El} (h : EO w B e) : EIs w e := ⟨Sl.of_own h.1, OwnR.s h.2⟩
theorem EO.later {w w' : World} {B : Nat} {e : El} (h : EO w B e) (hl : Later w w') : EO w' B e := ⟨own_later h.1 hl, OwnR.later h.2 hl⟩
theorem EO.base {w : World} {B B' : Nat} {e : El} (h : EO w B e) (hb : B' ≤ B) : EO w B' e := ⟨own_base h.1 hb, OwnR.base h.2 hb⟩
theorem EO.chg {w w' : World} {B g : Nat} {e : El} {cs : Array Value} (h : EO w B e) (hb : Blk w g cs 55) (c : Chg w w' [g]) : EO w' B e :=
  ⟨own_chg_ty h.1 hb (by decide) c, own_chg_ty h.2 hb (by decide) c⟩
theorem EIs.slices {w : World} {e : El} (h : EIs w e) : (∃ o n c, e.dv = .slice o n c) ∧ (∃ o n c, e.av = .slice o n c) := by
  obtain ⟨o, c, h1, _⟩ := Sl.openM h.1
  obtain ⟨o', c', h2, _⟩ := RecS.slice h.2
  exact ⟨⟨o, _, c, h1⟩, ⟨o', _, c', h2⟩⟩
theorem elC_one {w : World} {e : El} (h : EIs w e) : ∀ u ∈ elC e, u.oneCell' = true := by
  obtain ⟨⟨o, n, c, h1⟩, ⟨o', n', c', h2⟩⟩ := h.slices
  intro u hu
  unfold elC at hu
  rw [h1, h2] at hu
  simp only [List.mem_cons, List.not_mem_nil, or_false] at hu
  rcases hu with rfl | rfl | rfl | rfl <;> rfl
abbrev OwnE (w : World) (B : Nat) (v : Value) (l : List El) : Prop := OwnR elC 4 w B 55 v l
structure Sw (w : World) (B B' g c : Nat) (L l : List El) : Prop where
  own : OwnE w B (.slice (some ⟨g, 0, none⟩) l.length c) l
  els : ∀ e ∈ L, EO w B' e
  sub : ∀ e ∈ l, e ∈ L
  big : l.length ≤ 1000000
theorem Sw.later {w w' : World} {B B' g c : Nat} {L l : List El} (h : Sw w B B' g c L l) (hl : Later w w') : Sw w' B B' g c L l := ⟨h.own.later hl, fun e he => (h.els e he).later hl, h.sub, h.big⟩
theorem Sw.at {w : World} {B B' g c : Nat} {L l : List El} (h : Sw w B B' g c L l) {i : Nat} (hi : i < l.length) : cellsAt w ⟨g, i * 4, none⟩ 4 = some (elC l[i]!) := by
  rw [getElem!_pos l i hi]
  have := RecS.get elC_len h.own.s hi
  rwa [addr_add_eq, Nat.zero_add] at this
theorem Sw.elAt {w : World} {B B' g c : Nat} {L l : List El} (h : Sw w B B' g c L l) {i : Nat} (hi : i < l.length) : EO w B' l[i]! := by
  rw [getElem!_pos l i hi]
  exact h.els _ (h.sub _ (List.getElem_mem _))
theorem Sw.store {w : World} {B B' g c : Nat} {L l : List El} (h : Sw w B B' g c L l) {i : Nat} (hi : i < l.length) {e : El} (he : e ∈ L) {K : Value → World → Prop} (hK : ∀ w', Sw w' B B' g c L (l.set i e) → Chg w w' [g] → K undef w') :
    vStoreD Tryz.prog 55 (some 4) (.pointer (some ⟨g, i * 4, none⟩)) (.agg (elC e).toArray) K w := by
  obtain ⟨g', eg, hB, ⟨cs, hb⟩, hcan, ho, hc⟩ := OwnR.set elC_len h.own hi e
  have eg' : g = g' := by have := congrArg Addr.block eg; simpa using this
  subst eg'
  rw [addr_add_eq, Nat.zero_add] at hcan ho hc
  refine ⟨rfl, ?_, ?_, ?_⟩
  · simpa [Value.cells] using elC_one (h.els e he).is
  · simpa [Value.cells] using hcan
  · have e1 : (Value.agg (elC e).toArray).cells.toList = elC e := by simp [Value.cells]
    rw [e1]
    refine hK _ ⟨by simpa using ho, fun x hx => (h.els x hx).chg hb hc, fun x hx => ?_, by simpa using h.big⟩ hc
    rcases List.mem_or_eq_of_mem_set hx with hx | rfl
    · exact h.sub x hx
    · exact he
theorem Sw.mem {w : World} {B B' g c : Nat} {L l : List El} (h : Sw w B B' g c L l) {i : Nat} (hi : i < l.length) : l[i]! ∈ L := by rw [getElem!_pos l i hi]; exact h.sub _ (List.getElem_mem _)
abbrev cmpV : Value := .func (.func 70) #[] #[]
theorem swapRange_c (B B' g c : Nat) (L l : List El) (a b k : Nat) (w : World) (h : Sw w B B' g c L l) (ha : a + k ≤ l.length) (hb : b + k ≤ l.length) :
    FnC Tryz.prog 168 #[.slice (some ⟨g, 0, none⟩) l.length c, .int .i64 a, .int .i64 b, .int .i64 k, cmpV] w fun r w' => Sw w' B B' g c L (swps l a b k) ∧ Chg w w' [g] := by
  have hbig := h.big
  refine enter168 _ _ _ _ _ ?_
  unfold B168
  repeat' (first | (simp (disch := omega) only [push_cast, seval]) | refine iX ?_ ?_ <;> intros | refine aI (by omega) ?_ | refine dq ?_)
  refine vc_loop W168_0 (fun i : Nat => [(10, .int .i64 (i : Int))]) (fun i w' => i ≤ k ∧ Sw w' B B' g c L (swps l a b i) ∧ Chg w w' [g]) (fun i => k - i) 0 (by decide) ?_ ?_ ?_
  · simp (disch := omega) only [push_cast, seval]
  · exact ⟨by omega, h, Chg.refl _ _⟩
  rintro i uu w1 ⟨hi, h1, c1⟩
  have hlen := swps_len l a b i
  by_cases hlt : i < k
  · have ea : ((a : Int) + (i : Int)).toNat = a + i := by omega
    have eb : ((b : Int) + (i : Int)).toNat = b + i := by omega
    have fa := h1.at (i := a + i) (by omega)
    have fb := h1.at (i := b + i) (by omega)
    repeat' (first | (simp (disch := omega) only [push_cast, seval]) | refine iX ?_ ?_ <;> intros | refine aI (by omega) ?_ | fail)
    refine drawnS_k 21 ?_
    repeat' (first | (simp (disch := omega) only [push_cast, seval, ea, eb, fa, fb]) | refine iX ?_ ?_ <;> intros | refine aI (by omega) ?_ | fail)
    refine ⟨rfl, fun w2 l2 => ⟨by simp (disch := omega) only [push_cast, seval, implies_true, and_self], ?_⟩⟩
    have h2 := h1.later l2
    have c2 := c1.trans (Chg.of_later l2)
    repeat' (first | (simp (disch := omega) only [push_cast, seval, ea, eb]) | refine iX ?_ ?_ <;> intros | refine aI (by omega) ?_ | fail)
    refine h2.store (i := a + i) (by omega) (h2.mem (i := b + i) (by omega)) fun w3 h3 c3 => ?_
    repeat' (first | (simp (disch := omega) only [push_cast, seval, eb]) | refine iX ?_ ?_ <;> intros | refine aI (by omega) ?_ | fail)
    refine h3.store (i := b + i) (by simp; omega) (h2.mem (i := a + i) (by omega)) fun w4 h4 c4 => ?_
    repeat' (first | (simp (disch := omega) only [push_cast, seval]) | refine iX ?_ ?_ <;> intros | refine aI (by omega) ?_ | refine dq ?_)
    exact ⟨rfl, i + 1, by simp (disch := omega) only [push_cast, seval], ⟨by omega, h4, (c2.trans c3).trans c4⟩, by dsimp only; omega⟩
  · have e : i = k := by omega
    subst e
    repeat' (first | (simp (disch := omega) only [push_cast, seval]) | refine iX ?_ ?_ <;> intros | refine aI (by omega) ?_ | refine dq ?_)
    first | exact ⟨h1, c1⟩ | exact c1
theorem rotate_c (B B' g c : Nat) (L X u v Y : List El) (w : World) (h : Sw w B B' g c L (X ++ u ++ v ++ Y)) (hu : 0 < u.length) (hv : 0 < v.length) :
    FnC Tryz.prog 148 #[.slice (some ⟨g, 0, none⟩) (X ++ u ++ v ++ Y).length c, .int .i64 X.length, .int .i64 ((X.length + u.length : Nat) : Int), .int .i64 ((X.length + u.length + v.length : Nat) : Int), cmpV] w fun r w' => Sw w' B B' g c L (X ++ v ++ u ++ Y) ∧ Chg w w' [g] := by
  have hbig := h.big
  have hlen : (X ++ u ++ v ++ Y).length = X.length + u.length + v.length + Y.length := by simp; omega
  rw [hlen] at hbig
  generalize hN : (X ++ u ++ v ++ Y).length = N at *
  refine enter148 _ _ _ _ _ ?_
  unfold B148
  have ei : ((X.length + u.length : Nat) : Int) - (X.length : Int) = (u.length : Int) := by omega
  have ej : ((X.length + u.length + v.length : Nat) : Int) - ((X.length + u.length : Nat) : Int) = (v.length : Int) := by omega
  generalize hm : X.length + u.length = m at *
  have ej' : (m : Int) + (v.length : Int) - (m : Int) = (v.length : Int) := by omega
  repeat' (first | (simp (disch := omega) only [push_cast, seval, ei, ej]) | refine iX ?_ ?_ <;> intros | refine aI (by omega) ?_ | refine dq ?_)
  refine vc_loop W148_0 (fun p : Nat × Nat => [(10, .int .i64 (p.1 : Int)), (11, .int .i64 (p.2 : Int))])
    (fun p w' => ∃ dl P Q dr, P.length = p.1 ∧ Q.length = p.2 ∧ 0 < p.1 ∧ 0 < p.2 ∧ X.length + dl.length + P.length = m ∧ v ++ u = dl ++ Q ++ P ++ dr ∧ Sw w' B B' g c L (X ++ dl ++ P ++ Q ++ (dr ++ Y)) ∧ Chg w w' [g]) (fun p => p.1 + p.2) (u.length, v.length) (by decide) ?_ ?_ ?_
  · simp (disch := omega) only [push_cast, seval, ei, ej, ej']
  · exact ⟨[], u, v, [], rfl, rfl, hu, hv, by simp; omega, by simp, by simpa using h, Chg.refl _ _⟩
  rintro ⟨i, j⟩ uu w1 ⟨dl, P, Q, dr, hP, hQ, hi0, hj0, hmP, hvu, h1, c1⟩
  dsimp only at hP hQ hi0 hj0
  have htot := congrArg List.length hvu
  simp only [List.length_append] at htot
  have hLn : (X ++ dl ++ P ++ Q ++ (dr ++ Y)).length = N := by simp only [List.length_append]; omega
  rcases Nat.lt_trichotomy i j with hij | hij | hij
  · obtain ⟨Q1, Q2, rfl, q2, q1, hs⟩ := rot_lt (X := X ++ dl) (P := P) (Q := Q) (Y := dr ++ Y) (by omega)
    have h1' := swapRange_c B B' g c L (X ++ dl ++ P ++ (Q1 ++ Q2) ++ (dr ++ Y)) (X ++ dl).length ((X ++ dl).length + (Q1 ++ Q2).length) P.length w1 h1 (by simp only [List.length_append]; omega) (by simp only [List.length_append] at *; omega)
    rw [hs, hLn] at h1'
    have a1 : ((X ++ dl).length : Int) = (m : Int) - (i : Int) := by rw [List.length_append]; omega
    have a2 : (((X ++ dl).length + (Q1 ++ Q2).length : Nat) : Int) = (m : Int) + (j : Int) - (i : Int) := by rw [List.length_append, hQ]; omega
    rw [a1, a2, hP] at h1'
    have hjo := hQ
    rw [List.length_append] at hjo
    repeat' (first | (simp (disch := omega) only [push_cast, seval]) | refine iX ?_ ?_ <;> intros | refine aI (by omega) ?_ | refine dq ?_)
    refine h1'.mono ?_
    rintro _ w2 ⟨h2, c2⟩
    repeat' (first | (simp (disch := omega) only [push_cast, seval]) | refine iX ?_ ?_ <;> intros | refine aI (by omega) ?_ | refine dq ?_)
    refine ⟨rfl, (i, j - i), by simp (disch := omega) only [push_cast, seval], ⟨dl, Q2, Q1, P ++ dr, by dsimp only; omega, by dsimp only; omega, by dsimp only; omega, by dsimp only; omega, by omega, ?_, by simpa using h2, c1.trans c2⟩, by dsimp only; omega⟩
    rw [hvu]; simp
  · subst hij
    have hs := rot_eq (X := X ++ dl) (P := P) (Q := Q) (Y := dr ++ Y) (by omega)
    have h1' := swapRange_c B B' g c L (X ++ dl ++ P ++ Q ++ (dr ++ Y)) (X ++ dl).length ((X ++ dl).length + P.length) P.length w1 h1 (by simp only [List.length_append]; omega) (by simp only [List.length_append]; omega)
    rw [hs, hLn] at h1'
    have a1 : ((X ++ dl).length : Int) = (m : Int) - (i : Int) := by rw [List.length_append]; omega
    have a2 : (((X ++ dl).length + P.length : Nat) : Int) = (m : Int) := by rw [List.length_append]; omega
    rw [a1, a2, hP] at h1'
    repeat' (first | (simp (disch := omega) only [push_cast, seval]) | refine iX ?_ ?_ <;> intros | refine aI (by omega) ?_ | refine dq ?_)
    refine h1'.mono ?_
    rintro _ w2 ⟨h2, c2⟩
    have hf : Sw w2 B B' g c L (X ++ v ++ u ++ Y) := by
      have e : X ++ v ++ u ++ Y = X ++ dl ++ Q ++ P ++ (dr ++ Y) := by
        rw [List.append_assoc X v u, hvu]; simp
      rw [e]; exact h2
    repeat' (first | (simp (disch := omega) only [push_cast, seval]) | refine iX ?_ ?_ <;> intros | refine aI (by omega) ?_ | refine dq ?_)
    first | exact ⟨hf, (c1.trans c2)⟩ | exact (c1.trans c2)
  · obtain ⟨P1, P2, rfl, q1, q2, hs⟩ := rot_gt (X := X ++ dl) (P := P) (Q := Q) (Y := dr ++ Y) (by omega)
    have h1' := swapRange_c B B' g c L (X ++ dl ++ (P1 ++ P2) ++ Q ++ (dr ++ Y)) (X ++ dl).length ((X ++ dl).length + (P1 ++ P2).length) Q.length w1 h1 (by simp only [List.length_append] at *; omega) (by simp only [List.length_append] at *; omega)
    rw [hs, hLn] at h1'
    have a1 : ((X ++ dl).length : Int) = (m : Int) - (i : Int) := by rw [List.length_append]; omega
    have a2 : (((X ++ dl).length + (P1 ++ P2).length : Nat) : Int) = (m : Int) := by rw [List.length_append]; omega
    rw [a1, a2, hQ] at h1'
    have hio := hP
    rw [List.length_append] at hio
    repeat' (first | (simp (disch := omega) only [push_cast, seval]) | refine iX ?_ ?_ <;> intros | refine aI (by omega) ?_ | refine dq ?_)
    refine h1'.mono ?_
    rintro _ w2 ⟨h2, c2⟩
    repeat' (first | (simp (disch := omega) only [push_cast, seval]) | refine iX ?_ ?_ <;> intros | refine aI (by omega) ?_ | refine dq ?_)
    refine ⟨rfl, (i - j, j), by simp (disch := omega) only [push_cast, seval], ⟨dl ++ Q, P2, P1, dr, by dsimp only; omega, by dsimp only; omega, by dsimp only; omega, by dsimp only; omega, by simp only [List.length_append]; omega, ?_, by simpa using h2, c1.trans c2⟩, by dsimp only; omega⟩
    rw [hvu]; simp
end Go.Proofs.YtnofalhkapmcnaaGreat
end
